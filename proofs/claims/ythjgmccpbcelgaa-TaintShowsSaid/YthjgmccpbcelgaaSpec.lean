/-
  The plain functions: what the program's functions compute, on lists. No program in sight.
-/
import Derived.Test.YthjgmccpbcelgaaLib
namespace Go.Proofs.Ythjgmccpbcelgaa
open Go Go.RowKit

/-! ### events -/
structure Ev where
  kind : Int
  txn : Int
  key : ByteArray
  val : ByteArray
deriving DecidableEq

def Ev.z : Ev := ⟨0, 0, ⟨#[]⟩, ⟨#[]⟩⟩
def Ev.cs (x : Ev) : List Value := [.int .i64 x.kind, .int .i64 x.txn, .string x.key, .string x.val]
def kEv : Kd Ev := Kd.flat 4 Ev.z Ev.cs (fun _ => rfl)
def nth (l : List Ev) (i : Nat) : Ev := l.getD i Ev.z
abbrev Evs (w : World) (A : Option Addr) (n : Nat) (l : List Ev) : Prop := Sl kEv w A n l

theorem Evs.opn {w : World} {A : Option Addr} {n : Nat} {l : List Ev} (h : Evs w A n l) (hn : 0 < n) : ∃ b o, A = some ⟨b, o, none⟩ ∧
    (∀ W i, Ext w W → i < n → W.cell? ⟨b, o + i * 4, none⟩ = some (.int .i64 (nth l i).kind)) ∧
    (∀ W i, Ext w W → i < n → W.cell? ⟨b, o + i * 4 + 1, none⟩ = some (.int .i64 (nth l i).txn)) ∧
    (∀ W i, Ext w W → i < n → W.cell? ⟨b, o + i * 4 + 2, none⟩ = some (.string (nth l i).key)) ∧
    (∀ W i, Ext w W → i < n → W.cell? ⟨b, o + i * 4 + 3, none⟩ = some (.string (nth l i).val)) := by
  obtain ⟨b, o, e, hg⟩ := h.get hn
  have hh : ∀ W i j u, Ext w W → i < n → (nth l i).cs[j]? = some u → W.cell? ⟨b, o + i * 4 + j, none⟩ = some u := fun W i j u hx hi hu => by
    obtain ⟨cs, hR, hc⟩ := hg i hi
    have hcs : cs = (nth l i).cs := hR
    exact hx.cell (hc j u (by rw [hcs]; exact hu))
  exact ⟨b, o, e, fun W i hx hi => hh W i 0 _ hx hi rfl, fun W i hx hi => hh W i 1 _ hx hi rfl, fun W i hx hi => hh W i 2 _ hx hi rfl, fun W i hx hi => hh W i 3 _ hx hi rfl⟩

theorem Evs.len {w : World} {A : Option Addr} {n : Nat} {l : List Ev} (h : Evs w A n l) : l.length = n := Sl.len h

/-- Does an event end its transaction? -/
def ends (x : Ev) : Bool := x.kind == 4 || x.kind == 5

/-- The place of the first one of which p holds, counted from i on; -1: none. -/
def idx {α : Type} (p : α → Bool) : List α → Int → Int
  | [], _ => -1
  | x :: r, i => if p x then i else idx p r (i + 1)
theorem idx_cons {α : Type} (p : α → Bool) (x : α) (r : List α) (i : Int) : idx p (x :: r) i = if p x then i else idx p r (i + 1) := rfl
theorem idx_nil {α : Type} (p : α → Bool) (i : Int) : idx p ([] : List α) i = -1 := rfl

/-- The place of the last one of which p holds; d: none. -/
def lastIdx {α : Type} (p : α → Bool) : List α → Int → Int → Int
  | [], _, d => d
  | x :: r, i, d => lastIdx p r (i + 1) (if p x then i else d)
theorem lastIdx_cons {α : Type} (p : α → Bool) (x : α) (r : List α) (i d : Int) : lastIdx p (x :: r) i d = lastIdx p r (i + 1) (if p x then i else d) := rfl

def isOf (txn : Int) (x : Ev) : Bool := x.txn == txn
def endsOf (txn : Int) (x : Ev) : Bool := x.txn == txn && ends x
def writes (key val : ByteArray) (x : Ev) : Bool := x.kind == 3 && (decide (x.key = key) && decide (x.val = val))
def wroteBy (txn : Int) (key : ByteArray) (x : Ev) : Bool := x.kind == 3 && (x.txn == txn && decide (x.key = key))

def endOf (h : List Ev) (txn : Int) : Int := idx (endsOf txn) h 0
def firstOf (h : List Ev) (txn : Int) : Int := idx (isOf txn) h 0
def writer (h : List Ev) (key val : ByteArray) : Int := idx (writes key val) h 0
def lastOf (h : List Ev) (txn : Int) (key : ByteArray) (before : Int) : Int := lastIdx (wroteBy txn key) (h.take before.toNat) 0 (-1)

/-- A transaction's events, with their places. -/
def ofs (txn : Int) (l : List Ev) : List (Ev × Nat) := l.zipIdx.filter (fun p => isOf txn p.1)
theorem ofs_step (txn : Int) (l : List Ev) {k : Nat} (h : k < l.length) : ofs txn (l.take (k + 1)) = ofs txn (l.take k) ++ (if isOf txn (nth l k) then [(nth l k, k)] else []) := by
  have e : l.take (k + 1) = l.take k ++ [nth l k] := by
    rw [List.take_succ_eq_append_getElem h]
    simp [nth, List.getD_eq_getElem?_getD, h]
  have hm : min k l.length = k := by omega
  rw [e]
  unfold ofs
  rw [List.zipIdx_append, List.filter_append]
  simp only [List.zipIdx_cons, List.zipIdx_nil, List.length_take, Nat.zero_add, hm]
  congr 1
  by_cases hp : isOf txn (nth l k) <;> simp [hp]
theorem ofs_prefix (txn : Int) (l : List Ev) {k : Nat} : ofs txn (l.take k) <+: ofs txn l := by
  obtain ⟨r, hr⟩ : ∃ r, l = l.take k ++ r := ⟨l.drop k, (List.take_append_drop k l).symm⟩
  have hz : l.zipIdx = (l.take k).zipIdx ++ r.zipIdx (l.take k).length := by
    have := List.zipIdx_append (xs := l.take k) (ys := r) (k := 0)
    rw [← hr] at this
    simpa using this
  unfold ofs
  rw [hz, List.filter_append]
  exact ⟨_, rfl⟩

theorem idx_range {α : Type} (p : α → Bool) : ∀ (l : List α) (i : Int), 0 ≤ i → idx p l i = -1 ∨ (i ≤ idx p l i ∧ idx p l i < i + l.length)
  | [], _, _ => .inl rfl
  | x :: r, i, hi => by
    rw [idx_cons]
    by_cases h : p x = true
    · rw [if_pos h]; right; simp; omega
    · rw [if_neg h]
      rcases idx_range p r (i + 1) (by omega) with h1 | h1
      · exact .inl h1
      · right; simp; omega
theorem idx_lt {α : Type} (p : α → Bool) (l : List α) : -1 ≤ idx p l 0 ∧ idx p l 0 < l.length := by
  rcases idx_range p l 0 (by omega) with h | h <;> omega

theorem lastIdx_range {α : Type} (p : α → Bool) : ∀ (l : List α) (i d : Int), 0 ≤ i → lastIdx p l i d = d ∨ (i ≤ lastIdx p l i d ∧ lastIdx p l i d < i + l.length)
  | [], _, _, _ => .inl rfl
  | x :: r, i, d, hi => by
    rw [lastIdx_cons]
    rcases lastIdx_range p r (i + 1) (if p x then i else d) (by omega) with h1 | h1
    · rw [h1]
      by_cases h : p x = true
      · rw [if_pos h]; right; simp; omega
      · rw [if_neg h]; exact .inl rfl
    · right; simp; omega

/-! ### well formed -/
def MayP (x : Ev) : Prop :=
  1 ≤ x.kind ∧ x.kind ≤ 5 ∧ 1 ≤ x.txn ∧ x.txn ≤ 32 ∧
  (((x.kind = 2 ∨ x.kind = 3) ∧ 1 ≤ x.key.size ∧ x.key.size ≤ 32 ∧ x.val.size ≤ 32 ∧ (x.kind = 2 ∨ 1 ≤ x.val.size)) ∨
   (x.kind ≠ 2 ∧ x.kind ≠ 3 ∧ x.key.size = 0 ∧ x.val.size = 0))
instance (x : Ev) : Decidable (MayP x) := by unfold MayP; exact inferInstance
def may (x : Ev) : Bool := decide (MayP x)
theorem may_iff (x : Ev) : may x = true ↔ MayP x := by unfold may; exact decide_eq_true_iff

def twice (x : Ev) (y : Ev) : Bool := y.kind == 3 && decide (y.val = x.val)
def stepErr (h : List Ev) (i : Nat) : Int :=
  if may (nth h i) = false then 1
  else if (nth h i).kind = 1 then (if 0 ≤ firstOf (h.take i) (nth h i).txn then 8 else 0)
  else if firstOf (h.take i) (nth h i).txn < 0 then 7
  else if 0 ≤ endOf (h.take i) (nth h i).txn then 9
  else if (nth h i).kind = 3 ∧ (h.take i).any (twice (nth h i)) = true then 8
  else if (nth h i).kind = 2 ∧ (nth h i).val.size ≠ 0 ∧ writer h (nth h i).key (nth h i).val < 0 then 7
  else 0
/-- The first place from i on, of m, at which f isn't 0; and what it is there. -/
def firstErr (f : Nat → Int) : Nat → Nat → Int × Int
  | 0, i => (i, 0)
  | m + 1, i => if f i = 0 then firstErr f m (i + 1) else (i, f i)
def openErr (h : List Ev) (i : Nat) : Int := if endOf h (nth h i).txn < 0 then 9 else 0
def formed (h : List Ev) : Int × Int :=
  if 256 < h.length then (0, 4)
  else if (firstErr (stepErr h) h.length 0).2 ≠ 0 then firstErr (stepErr h) h.length 0
  else ((h.length : Int), (firstErr (openErr h) h.length 0).2)

def FE (f : Nat → Int) (n k : Nat) : Prop := firstErr f (n - k) k = firstErr f n 0
theorem FE.zero (f : Nat → Int) (n : Nat) : FE f n 0 := rfl
theorem FE.step {f : Nat → Int} {n k : Nat} (h : FE f n k) (hk : k < n) (hf : f k = 0) : FE f n (k + 1) := by
  unfold FE at *
  rw [← h, show n - k = (n - (k + 1)) + 1 by omega]
  show _ = if f k = 0 then _ else _
  rw [if_pos hf]
theorem FE.hit {f : Nat → Int} {n k : Nat} (h : FE f n k) (hk : k < n) {c : Int} (hf : f k = c) (hc : c ≠ 0) : firstErr f n 0 = ((k : Int), c) := by
  unfold FE at h
  rw [← h, show n - k = (n - (k + 1)) + 1 by omega]
  show (if f k = 0 then _ else _) = _
  rw [if_neg (by rw [hf]; exact hc), hf]
theorem FE.end {f : Nat → Int} {n k : Nat} (h : FE f n k) (hk : n ≤ k) : firstErr f n 0 = ((k : Int), 0) := by
  unfold FE at h
  rw [← h, show n - k = 0 by omega]
  rfl
theorem formed_err {l : List Ev} {n : Nat} (hl : l.length = n) (hn : n ≤ 256) {k c : Int} (h : firstErr (stepErr l) n 0 = (k, c)) (hc : c ≠ 0) : formed l = (k, c) := by
  unfold formed
  rw [if_neg (by omega), hl, if_pos (by rw [h]; exact hc), h]
theorem formed_open {l : List Ev} {n : Nat} (hl : l.length = n) (hn : n ≤ 256) {k : Int} (h : firstErr (stepErr l) n 0 = (k, 0)) {j c : Int} (h2 : firstErr (openErr l) n 0 = (j, c)) : formed l = ((n : Int), c) := by
  unfold formed
  rw [if_neg (by omega), hl, if_neg (by rw [h]; simp), h2]

theorem formed_leaf {l : List Ev} {n k : Nat} {c : Int} (hl : l.length = n) (hn : n ≤ 256) (hr : FE (stepErr l) n k) (hk : k < n) (hc : c ≠ 0) (hf : stepErr l k = c) :
    Ending.returned (.tuple #[.int .i64 (k : Int), .int .i64 c]) = .returned (.tuple #[.int .i64 (formed l).1, .int .i64 (formed l).2]) := by
  rw [formed_err hl hn (hr.hit hk hf hc) hc]
theorem formed_leaf2 {l : List Ev} {n j k : Nat} {c : Int} (hl : l.length = n) (hn : n ≤ 256) (h1 : firstErr (stepErr l) n 0 = ((j : Int), 0)) (hr : FE (openErr l) n k) (hk : k < n) (hc : c ≠ 0) (hf : openErr l k = c) :
    Ending.returned (.tuple #[.int .i64 (n : Int), .int .i64 c]) = .returned (.tuple #[.int .i64 (formed l).1, .int .i64 (formed l).2]) := by
  rw [formed_open hl hn h1 (hr.hit hk hf hc)]
theorem formed_leaf3 {l : List Ev} {n j k : Nat} (hl : l.length = n) (hn : n ≤ 256) (h1 : firstErr (stepErr l) n 0 = ((j : Int), 0)) (hr : FE (openErr l) n k) (hk : n ≤ k) :
    Ending.returned (.tuple #[.int .i64 (n : Int), .int .i64 0]) = .returned (.tuple #[.int .i64 (formed l).1, .int .i64 (formed l).2]) := by
  rw [formed_open hl hn h1 (hr.end hk)]

/-! ### lives -/
structure Life where
  txn : Int
  from_ : Int
  till : Int
  com : Bool
deriving DecidableEq
def Life.z : Life := ⟨0, 0, 0, false⟩
def lifeOf (h : List Ev) (k : Nat) : Life :=
  match (ofs (nth h k).txn h).find? (fun p => ends p.1) with
  | some p => ⟨(nth h k).txn, k, p.2, p.1.kind == 4⟩
  | none => ⟨(nth h k).txn, k, h.length, false⟩

def findL (h : List Ev) (txn : Int) : Life × Bool :=
  if firstOf h txn < 0 then (Life.z, false)
  else if endOf h txn < 0 then (⟨txn, firstOf h txn, h.length, false⟩, true)
  else (⟨txn, firstOf h txn, endOf h txn, (nth h (endOf h txn).toNat).kind == 4⟩, true)
theorem find_none {α : Type} {p : α → Bool} {l : List α} (h : ∀ x ∈ l, p x = false) : l.find? p = none := by
  rw [List.find?_eq_none]; intro x hx; rw [h x hx]; simp
theorem find_prefix {α : Type} {p : α → Bool} {l q : List α} {x : α} (hp : q ++ [x] <+: l) (hq : ∀ y ∈ q, p y = false) (hx : p x = true) : l.find? p = some x := by
  obtain ⟨r, rfl⟩ := hp
  rw [List.append_assoc, List.find?_append, find_none hq]
  simp [hx]

end Go.Proofs.Ythjgmccpbcelgaa
