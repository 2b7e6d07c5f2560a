/-
  Whether an edge holds. Of a well formed history: its edges hold; where nothing is tainted and an edge holds there is a way of edges.
-/
import Derived.Test.YtebjiimlcnmfpaaGreatA12
import Derived.Test.YtebjiimlcnmfpaaGreatB1
import Derived.Test.YtebjiimlcnmfpaaGreatR1
set_option linter.unusedVariables false
set_option linter.unusedSimpArgs false
namespace Go.Proofs.YtebjiimlcnmfpaaGreat
section
open Go

def overP (l : List Ev) (i : Nat) (to_ : Int) : Prop := (nth l i).val = ByteArray.empty ∨
  (0 ≤ writer l (nth l i).key (nth l i).val ∧ (nth l (writer l (nth l i).key (nth l i).val).toNat).txn ≠ to_ ∧ comOf l (nth l (writer l (nth l i).key (nth l i).val).toNat).txn = true ∧
    endOf l (nth l (writer l (nth l i).key (nth l i).val).toNat).txn < endOf l to_)
instance (l : List Ev) (i : Nat) (t : Int) : Decidable (overP l i t) := by unfold overP; exact inferInstance
/-- Does an edge hold? -/
def holdsP (l : List Ev) (e : Edge) : Prop :=
  comOf l e.from_ = true ∧ comOf l e.to_ = true ∧ e.from_ ≠ e.to_ ∧ 0 ≤ e.i ∧ e.i < l.length ∧ 0 ≤ e.j ∧ e.j < l.length ∧
  (nth l e.i.toNat).key = (nth l e.j.toNat).key ∧ (nth l e.i.toNat).txn = e.from_ ∧ (nth l e.j.toNat).txn = e.to_ ∧
  ((e.kind = 1 ∧ (nth l e.i.toNat).kind = 3 ∧ (nth l e.j.toNat).kind = 3 ∧ endOf l e.from_ < endOf l e.to_) ∨
   (e.kind = 2 ∧ (nth l e.i.toNat).kind = 3 ∧ (nth l e.j.toNat).kind = 2 ∧ (nth l e.i.toNat).val = (nth l e.j.toNat).val) ∨
   (e.kind = 3 ∧ (nth l e.i.toNat).kind = 2 ∧ (nth l e.j.toNat).kind = 3 ∧ overP l e.i.toNat e.to_))
instance (l : List Ev) (e : Edge) : Decidable (holdsP l e) := by unfold holdsP; exact inferInstance
def holds (l : List Ev) (e : Edge) : Bool := decide (holdsP l e)

/-- A value is written in one place. -/
theorem Wf.writer {l : List Ev} (hw : Wf l) {u : Nat} (hu : u < l.length) (hk : (nth l u).kind = 3) : Go.Proofs.YtebjiimlcnmfpaaGreat.writer l (nth l u).key (nth l u).val = u := by
  rcases idx_nth (writes (nth l u).key (nth l u).val) l with ⟨_, h⟩ | ⟨k, hkl, e, h1, _⟩
  · have := h u hu
    simp [writes, hk] at this
  · simp only [writes, Bool.and_eq_true, beq_iff_eq, decide_eq_true_eq] at h1
    have : k = u := by
      rcases Nat.lt_trichotomy k u with z | z | z
      · exact absurd h1.2.2 (hw.once hu z h1.1 hk)
      · exact z
      · exact absurd h1.2.2.symm (hw.once hkl z hk h1.1)
    rw [Go.Proofs.YtebjiimlcnmfpaaGreat.writer, e, this]
theorem Wf.same {l : List Ev} (hw : Wf l) {u v : Nat} (hu : u < l.length) (hv : v < l.length) (hk : (nth l u).kind = 3) (hk' : (nth l v).kind = 3) (h : (nth l u).val = (nth l v).val) : u = v := by
  rcases Nat.lt_trichotomy u v with z | z | z
  · exact absurd h (hw.once hv z hk hk')
  · exact z
  · exact absurd h.symm (hw.once hu z hk' hk)
/-! ### ways of edges; of such that are no GOver -/
def ofN (l : List Ev) (key : ByteArray) : List Edge := (ofE l key).filter fun e => decide (e.kind ≠ 3)
abbrev WayN (l : List Ev) (key : ByteArray) (a b : Int) : Prop := ∃ n, Rg.Walk Edge.from_ Edge.to_ (ofN l key) a n b
theorem WayN.refl (l : List Ev) (key : ByteArray) (a : Int) : WayN l key a a := ⟨0, [], rfl, fun _ h => (by cases h), rfl⟩
theorem WayN.trans {l : List Ev} {key : ByteArray} {a b c : Int} (h : WayN l key a b) (k : WayN l key b c) : WayN l key a c := by
  obtain ⟨n, h⟩ := h
  obtain ⟨m, k⟩ := k
  exact ⟨n + m, Rg.Walk.trans _ _ h k⟩
theorem WayN.put {l : List Ev} {key : ByteArray} {kind : Int} {i k : Nat} (hk : kind ≠ 3) (h : ∀ e ∈ putE l kind i k, e ∈ ofE l key) : WayN l key (nth l i).txn (nth l k).txn := by
  by_cases he : (nth l i).txn = (nth l k).txn
  · rw [he]; exact WayN.refl _ _ _
  · have hm : (⟨kind, (nth l i).txn, (nth l k).txn, i, k⟩ : Edge) ∈ ofN l key := List.mem_filter.2 ⟨h _ (by unfold putE; rw [if_neg he]; simp), by simpa using hk⟩
    exact ⟨1, Rg.Walk.one Edge.from_ Edge.to_ hm⟩
/-- A way that begins with a GOver, or with none. -/
def WayO (l : List Ev) (key : ByteArray) (a b : Int) : Prop := ∃ c, (a = c ∨ ∃ e ∈ ofE l key, e.kind = 3 ∧ e.from_ = a ∧ e.to_ = c) ∧ WayN l key c b
theorem WayO.of {l : List Ev} {key : ByteArray} {a b : Int} (h : WayN l key a b) : WayO l key a b := ⟨a, .inl rfl, h⟩
theorem WayO.put {l : List Ev} {key : ByteArray} {i k : Nat} {b : Int} (h : ∀ e ∈ putE l 3 i k, e ∈ ofE l key) (hw : WayN l key (nth l k).txn b) : WayO l key (nth l i).txn b := by
  refine ⟨(nth l k).txn, ?_, hw⟩
  by_cases he : (nth l i).txn = (nth l k).txn
  · exact .inl he
  · exact .inr ⟨⟨3, (nth l i).txn, (nth l k).txn, i, k⟩, h _ (by unfold putE; rw [if_neg he]; simp), rfl, rfl, rfl⟩
end
end Go.Proofs.YtebjiimlcnmfpaaGreat
