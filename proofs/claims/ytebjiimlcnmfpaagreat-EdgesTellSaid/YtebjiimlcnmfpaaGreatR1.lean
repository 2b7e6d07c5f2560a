/-
  Steps between numbers: chains, the shortest ring, orders; plain lists, no program.
-/

/-! Steps between numbers: chains, who reaches whom in just so many, the shortest ring, an order. Plain lists, no program. -/
set_option linter.unusedVariables false
set_option linter.unusedSimpArgs false
namespace Go.Proofs.YtebjiimlcnmfpaaGreat.Rg
section
section
variable {α : Type}

/-! ### lists -/
theorem find_spec {p : α → Bool} {l : List α} {x : α} (h : l.find? p = some x) : x ∈ l ∧ p x = true := ⟨List.mem_of_find?_eq_some h, List.find?_some h⟩
/-- Where a row of f's values has one twice. -/
theorem twice {β : Type} [DecidableEq β] (f : α → β) : ∀ r : List α, ¬ (r.map f).Nodup → ∃ a s b t c, r = a ++ s :: (b ++ t :: c) ∧ f s = f t
  | [], h => absurd List.nodup_nil h
  | x :: r, h => by
    by_cases hx : f x ∈ r.map f
    · obtain ⟨t, ht, he⟩ := List.mem_map.1 hx
      obtain ⟨b, c, rfl⟩ := List.append_of_mem ht
      exact ⟨[], x, b, t, c, rfl, he.symm⟩
    · have hr : ¬ (r.map f).Nodup := fun hn => h (by rw [List.map_cons]; exact List.nodup_cons.2 ⟨hx, hn⟩)
      obtain ⟨a, s, b, t, c, rfl, he⟩ := twice f r hr
      exact ⟨x :: a, s, b, t, c, rfl, he⟩

/-! ### rising rows -/
def ins (x : Int) : List Int → List Int
  | [] => [x]
  | y :: r => if x < y then x :: y :: r else if x = y then y :: r else y :: ins x r
def sortD : List Int → List Int
  | [] => []
  | x :: r => ins x (sortD r)
theorem mem_ins (x y : Int) : ∀ r, y ∈ ins x r ↔ y = x ∨ y ∈ r
  | [] => by simp [ins]
  | z :: r => by
    unfold ins
    split
    · simp
    · split
      · rename_i h; subst h; simp
      · rw [List.mem_cons, mem_ins x y r, List.mem_cons]
        constructor
        · rintro (h | h | h)
          · exact .inr (.inl h)
          · exact .inl h
          · exact .inr (.inr h)
        · rintro (h | h | h)
          · exact .inr (.inl h)
          · exact .inl h
          · exact .inr (.inr h)
theorem ins_rising (x : Int) : ∀ r : List Int, r.Pairwise (· < ·) → (ins x r).Pairwise (· < ·)
  | [], _ => by simp [ins]
  | z :: r, h => by
    have h' := List.pairwise_cons.1 h
    unfold ins
    split
    · rename_i hlt
      refine List.Pairwise.cons (fun y hy => ?_) h
      rcases List.mem_cons.1 hy with rfl | hy
      · exact hlt
      · have := h'.1 y hy; omega
    · split
      · exact h
      · refine List.Pairwise.cons (fun y hy => ?_) (ins_rising x r h'.2)
        rcases (mem_ins x y r).1 hy with rfl | hy
        · omega
        · exact h'.1 y hy
theorem mem_sortD (y : Int) : ∀ r, y ∈ sortD r ↔ y ∈ r
  | [] => Iff.rfl
  | x :: r => by rw [sortD, mem_ins, mem_sortD y r, List.mem_cons]
theorem sortD_rising : ∀ r, (sortD r).Pairwise (· < ·)
  | [] => List.Pairwise.nil
  | x :: r => ins_rising x _ (sortD_rising r)
theorem rising_nodup {r : List Int} (h : r.Pairwise (· < ·)) : r.Nodup := h.imp (fun {a b} hab e => by omega)
theorem rising_eq {a b : List Int} (ha : a.Pairwise (· < ·)) (hb : b.Pairwise (· < ·)) (h : ∀ x, x ∈ a ↔ x ∈ b) : a = b :=
  List.Perm.eq_of_pairwise (le := fun x y : Int => x < y) (fun x y _ _ h1 h2 => by omega) ha hb ((List.perm_ext_iff_of_nodup (rising_nodup ha) (rising_nodup hb)).2 h)
theorem ins_len (x : Int) : ∀ r : List Int, (ins x r).length ≤ r.length + 1
  | [] => by simp [ins]
  | y :: r => by
    have := ins_len x r
    unfold ins
    split
    · simp
    · split
      · simp
      · simp; omega
theorem sortD_len : ∀ r : List Int, (sortD r).length ≤ r.length
  | [] => by simp [sortD]
  | x :: r => by
    have := sortD_len r
    have := ins_len x (sortD r)
    rw [sortD, List.length_cons]; omega
variable (fr to : α → Int)

/-! ### chains -/
def chain : List α → Int → Int → Prop
  | [], a, b => a = b
  | s :: r, a, b => fr s = a ∧ chain r (to s) b
theorem chain_append : ∀ (r q : List α) (a b : Int), chain fr to (r ++ q) a b ↔ ∃ c, chain fr to r a c ∧ chain fr to q c b
  | [], q, a, b => by simp [chain]
  | s :: r, q, a, b => by
    simp only [List.cons_append, chain, chain_append r q]
    constructor
    · rintro ⟨h, c, h1, h2⟩; exact ⟨c, ⟨h, h1⟩, h2⟩
    · rintro ⟨c, ⟨h, h1⟩, h2⟩; exact ⟨h, c, h1, h2⟩
/-- A chain within l, from a to b, of just n steps. -/
def Walk (l : List α) (a : Int) (n : Nat) (b : Int) : Prop := ∃ r, r.length = n ∧ (∀ s ∈ r, s ∈ l) ∧ chain fr to r a b
/-! ### who reaches a number in just so many steps -/
def lev (l : List α) (t : Int) : Nat → Int → Bool
  | 0, x => decide (x = t)
  | n + 1, x => l.any fun s => decide (fr s = x) && lev l t n (to s)
/-- The first ring of so many steps from a number on. -/
def along (l : List α) (t : Int) : Nat → Int → List α
  | 0, _ => []
  | m + 1, at_ => match l.find? (fun s => decide (fr s = at_) && lev fr to l t m (to s)) with
    | some s => s :: along l t m (to s)
    | none => []
def ringAt (l : List α) (F : List Int) (n : Nat) : Option Int := F.find? fun a => lev fr to l a n a
def ringGo (l : List α) (F : List Int) : Nat → Nat → Option (Int × Nat)
  | 0, _ => none
  | d + 1, n => match ringAt fr to l F n with
    | some a => some (a, n)
    | none => ringGo l F d (n + 1)
def froms (l : List α) : List Int := sortD (l.map fr)
def find1 (l : List α) : Option (Int × Nat) := ringGo fr to l (froms fr l) (froms fr l).length 1
def ring (l : List α) : List α × Bool := match find1 fr to l with
  | some (a, n) => (along fr to l a n a, true)
  | none => ([], false)
/-! ### an order -/
def free (l : List α) (left : List Int) (n : Int) : Bool := l.all fun s => !(decide (to s = n) && decide (fr s ∈ left))
def ordGo (l : List α) : Nat → List Int → List Int → Option (List Int)
  | 0, _, out => some out
  | m + 1, ss, out => if ss = [] then some out else match ss.find? (free fr to l ss) with
    | none => none
    | some n => ordGo l m (ss.filter (fun y => decide (y ≠ n))) (out ++ [n])
def order (l : List α) (nodes : List Int) : Option (List Int) := ordGo fr to l (sortD nodes).length (sortD nodes) []
theorem filter_ne_len {ss : List Int} {n : Int} (h : n ∈ ss) (hn : ss.Nodup) : (ss.filter (fun y => decide (y ≠ n))).length + 1 = ss.length := by
  induction ss with
  | nil => cases h
  | cons z r ih =>
    have hz := List.nodup_cons.1 hn
    by_cases e : z = n
    · subst e
      have hr : r.filter (fun y => decide (y ≠ z)) = r := List.filter_eq_self.2 (fun y hy => by simp; rintro rfl; exact hz.1 hy)
      rw [List.filter_cons, if_neg (by simp), hr, List.length_cons]
    · rcases List.mem_cons.1 h with rfl | h
      · exact absurd rfl e
      · have := ih h hz.2
        rw [List.filter_cons, if_pos (by simpa using e), List.length_cons, List.length_cons]; omega
end
end
end Go.Proofs.YtebjiimlcnmfpaaGreat.Rg

/-! Steps between numbers: closing a relation under 'one behind the other'; short chains. -/
namespace Go.Proofs.YtebjiimlcnmfpaaGreat.Rg
section
section
variable {α : Type} (fr to : α → Int)

theorem Walk.one {l : List α} {s : α} (h : s ∈ l) : Walk fr to l (fr s) 1 (to s) := ⟨[s], rfl, fun x hx => (by rw [List.mem_singleton.1 hx]; exact h), rfl, rfl⟩
theorem Walk.trans {l : List α} {a b c : Int} {n m : Nat} (h : Walk fr to l a n b) (k : Walk fr to l b m c) : Walk fr to l a (n + m) c := by
  obtain ⟨r, h1, h2, h3⟩ := h
  obtain ⟨q, k1, k2, k3⟩ := k
  exact ⟨r ++ q, by simp [h1, k1], fun x hx => (List.mem_append.1 hx).elim (h2 x) (k2 x), (chain_append fr to r q a c).2 ⟨b, h3, k3⟩⟩

end
end
end Go.Proofs.YtebjiimlcnmfpaaGreat.Rg

/-! Steps under another name: rings and orders are the same. -/
namespace Go.Proofs.YtebjiimlcnmfpaaGreat.Rg
section
section
variable {α β : Type} (fr to : α → Int) (g : β → α)

end
end
end Go.Proofs.YtebjiimlcnmfpaaGreat.Rg

/-! The document's order, by rows that may have numbers twice: the same. -/
namespace Go.Proofs.YtebjiimlcnmfpaaGreat.Rg
section
section
variable {α : Type} (fr to : α → Int)

/-! ### forward -/
/-- The place of a number; -1: none. -/
def plc : List Int → Int → Int → Int
  | [], _, _ => -1
  | x :: r, n, i => if x = n then i else plc r n (i + 1)
/-- Do all steps go forward? -/
def forward (l : List α) (o : List Int) : Bool := decide o.Nodup && l.all fun s => !(decide (0 ≤ plc o (fr s) 0) && (decide (0 ≤ plc o (to s) 0) && decide (plc o (to s) 0 ≤ plc o (fr s) 0)))
/-! ### closed -/
def closed (l : List α) : Prop := ∃ a, l ≠ [] ∧ chain fr to l a a
end
end
end Go.Proofs.YtebjiimlcnmfpaaGreat.Rg
