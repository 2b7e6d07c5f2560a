/-
  The plain functions of chapter 9, and what ties the program's way of asking to the reference's.
-/
import Derived.Test.YthjgmccpbcelgaaPl1
namespace Go.Proofs.Ythjgmccpbcelgaa
open Go Go.RowKit

structure Bad where
  kind : Int
  i : Int
  j : Int
deriving DecidableEq
def Bad.z : Bad := ⟨0, 0, 0⟩
def Bad.cs (x : Bad) : List Value := [.int .i64 x.kind, .int .i64 x.i, .int .i64 x.j]
def kBad : Kd Bad := Kd.flat 3 Bad.z Bad.cs (fun _ => rfl)
def bnth (l : List Bad) (i : Nat) : Bad := l.getD i Bad.z
abbrev Bads (w : World) (A : Option Addr) (n : Nat) (l : List Bad) : Prop := Sl kBad w A n l
theorem Bads.opn {w : World} {A : Option Addr} {n : Nat} {l : List Bad} (h : Bads w A n l) (hn : 0 < n) : ∃ b o, A = some ⟨b, o, none⟩ ∧
    (∀ W i, Ext w W → i < n → W.cell? ⟨b, o + i * 3, none⟩ = some (.int .i64 (bnth l i).kind)) ∧
    (∀ W i, Ext w W → i < n → W.cell? ⟨b, o + i * 3 + 1, none⟩ = some (.int .i64 (bnth l i).i)) ∧
    (∀ W i, Ext w W → i < n → W.cell? ⟨b, o + i * 3 + 2, none⟩ = some (.int .i64 (bnth l i).j)) := by
  obtain ⟨b, o, e, hg⟩ := h.get hn
  have hh : ∀ W i j u, Ext w W → i < n → (bnth l i).cs[j]? = some u → W.cell? ⟨b, o + i * 3 + j, none⟩ = some u := fun W i j u hx hi hu => by
    obtain ⟨cs, hR, hc⟩ := hg i hi
    have hcs : cs = (bnth l i).cs := hR
    exact hx.cell (hc j u (by rw [hcs]; exact hu))
  exact ⟨b, o, e, fun W i hx hi => hh W i 0 _ hx hi rfl, fun W i hx hi => hh W i 1 _ hx hi rfl, fun W i hx hi => hh W i 2 _ hx hi rfl⟩

/-- Is a transaction committed, and where does it end? -/
def comOf (h : List Ev) (txn : Int) : Bool := decide (0 ≤ endOf h txn) && ((nth h (endOf h txn).toNat).kind == 4)
def counts (h : List Ev) (i : Int) : Bool :=
  decide (0 ≤ i) && (decide (i < h.length) && (((nth h i.toNat).kind == 2) && (comOf h (nth h i.toNat).txn && decide (i < endOf h (nth h i.toNat).txn))))
def outer (h : List Ev) (i : Int) : Bool := counts h i && decide (lastOf h (nth h i.toNat).txn (nth h i.toNat).key i < 0)
def ownBad (h : List Ev) (i k : Int) : Bad := if (nth h i.toNat).val = (nth h k.toNat).val then Bad.z else ⟨3, i, k⟩
def badW (h : List Ev) (i w : Int) : Bad :=
  if (nth h w.toNat).txn = (nth h i.toNat).txn then ⟨4, i, w⟩
  else if comOf h (nth h w.toNat).txn = false then ⟨1, i, w⟩
  else if lastOf h (nth h w.toNat).txn (nth h i.toNat).key (endOf h (nth h w.toNat).txn) = w then Bad.z
  else ⟨2, i, lastOf h (nth h w.toNat).txn (nth h i.toNat).key (endOf h (nth h w.toNat).txn)⟩
def badAt (h : List Ev) (i : Int) : Bad :=
  if counts h i = false then Bad.z
  else if 0 ≤ lastOf h (nth h i.toNat).txn (nth h i.toNat).key i then ownBad h i (lastOf h (nth h i.toNat).txn (nth h i.toNat).key i)
  else if (nth h i.toNat).val = ByteArray.empty then Bad.z
  else if writer h (nth h i.toNat).key (nth h i.toNat).val < 0 then Bad.z
  else badW h i (writer h (nth h i.toNat).key (nth h i.toNat).val)
/-- All that are wrong, from place i on, of so many. -/
def badsFrom (h : List Ev) : Nat → Nat → List Bad
  | 0, _ => []
  | m + 1, i => if (badAt h i).kind = 0 then badsFrom h m (i + 1) else badAt h i :: badsFrom h m (i + 1)
def bads (h : List Ev) : List Bad := badsFrom h h.length 0

theorem bad_zero (h : List Ev) (i : Int) : (badAt h i).kind = 0 ↔ badAt h i = Bad.z := by
  have e1 : ∀ k, (ownBad h i k).kind = 0 → ownBad h i k = Bad.z := fun k e => by
    unfold ownBad at e ⊢
    by_cases h1 : (nth h i.toNat).val = (nth h k.toNat).val
    · rw [if_pos h1]
    · rw [if_neg h1] at e; simp at e
  have e2 : ∀ w, (badW h i w).kind = 0 → badW h i w = Bad.z := fun w e => by
    unfold badW at e ⊢
    by_cases h1 : (nth h w.toNat).txn = (nth h i.toNat).txn
    · rw [if_pos h1] at e; simp at e
    · rw [if_neg h1] at e ⊢
      by_cases h2 : comOf h (nth h w.toNat).txn = false
      · rw [if_pos h2] at e; simp at e
      · rw [if_neg h2] at e ⊢
        by_cases h3 : lastOf h (nth h w.toNat).txn (nth h i.toNat).key (endOf h (nth h w.toNat).txn) = w
        · rw [if_pos h3]
        · rw [if_neg h3] at e; simp at e
  constructor
  · intro e
    unfold badAt at e ⊢
    by_cases h1 : counts h i = false
    · rw [if_pos h1]
    · rw [if_neg h1] at e ⊢
      by_cases h2 : 0 ≤ lastOf h (nth h i.toNat).txn (nth h i.toNat).key i
      · rw [if_pos h2] at e ⊢; exact e1 _ e
      · rw [if_neg h2] at e ⊢
        by_cases h3 : (nth h i.toNat).val = ByteArray.empty
        · rw [if_pos h3]
        · rw [if_neg h3] at e ⊢
          by_cases h4 : writer h (nth h i.toNat).key (nth h i.toNat).val < 0
          · rw [if_pos h4]
          · rw [if_neg h4] at e ⊢; exact e2 _ e
  · intro e; rw [e]; rfl

theorem isOf_first {l : List Ev} {k : Nat} (hk : k < l.length) : 0 ≤ firstOf l (nth l k).txn := by
  rcases idx_spec (isOf (nth l k).txn) l 0 with ⟨_, h2⟩ | ⟨j, hj, h1, _⟩
  · have := h2 _ (List.getElem_mem hk)
    rw [← nth_lt hk] at this
    simp [isOf] at this
  · have e : firstOf l (nth l k).txn = (j : Int) := by rw [firstOf]; simpa using h1
    omega
theorem findL_of {l : List Ev} {k : Nat} (hk : k < l.length) :
    (findL l (nth l k).txn).2 = true ∧ (findL l (nth l k).txn).1.txn = (nth l k).txn ∧ (findL l (nth l k).txn).1.com = comOf l (nth l k).txn ∧ (findL l (nth l k).txn).1.till = if endOf l (nth l k).txn < 0 then (l.length : Int) else endOf l (nth l k).txn := by
  have h := isOf_first hk
  unfold findL comOf
  rw [if_neg (by omega)]
  by_cases he : endOf l (nth l k).txn < 0
  · rw [if_pos he, if_pos he]
    refine ⟨rfl, rfl, ?_, rfl⟩
    simp; omega
  · rw [if_neg he, if_neg he]
    refine ⟨rfl, rfl, ?_, rfl⟩
    have : decide (0 ≤ endOf l (nth l k).txn) = true := decide_eq_true (by omega)
    simp [this]
theorem comOf_end {l : List Ev} {t : Int} (h : comOf l t = true) : 0 ≤ endOf l t ∧ endOf l t < l.length ∧ (nth l (endOf l t).toNat).kind = 4 := by
  unfold comOf at h
  simp at h
  have := idx_lt (endsOf t) l
  have e : endOf l t = idx (endsOf t) l 0 := rfl
  exact ⟨h.1, by omega, h.2⟩

end Go.Proofs.Ythjgmccpbcelgaa
