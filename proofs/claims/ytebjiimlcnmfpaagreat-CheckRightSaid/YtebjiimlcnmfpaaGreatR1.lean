/-
  Steps between numbers: chains, the shortest ring, orders; plain lists, no program.
-/

/-! Steps between numbers: chains, who reaches whom in just so many, the shortest ring, an order. Plain lists, no program. -/
set_option linter.unusedVariables false
set_option linter.unusedSimpArgs false
namespace Go.Proofs.YtebjiimlcnmfpaaGreat.Rg
section
section
variable {α : Type}

/-! ### lists -/
theorem find_spec {p : α → Bool} {l : List α} {x : α} (h : l.find? p = some x) : x ∈ l ∧ p x = true := ⟨List.mem_of_find?_eq_some h, List.find?_some h⟩
/-- Where a row of f's values has one twice. -/
theorem twice {β : Type} [DecidableEq β] (f : α → β) : ∀ r : List α, ¬ (r.map f).Nodup → ∃ a s b t c, r = a ++ s :: (b ++ t :: c) ∧ f s = f t
  | [], h => absurd List.nodup_nil h
  | x :: r, h => by
    by_cases hx : f x ∈ r.map f
    · obtain ⟨t, ht, he⟩ := List.mem_map.1 hx
      obtain ⟨b, c, rfl⟩ := List.append_of_mem ht
      exact ⟨[], x, b, t, c, rfl, he.symm⟩
    · have hr : ¬ (r.map f).Nodup := fun hn => h (by rw [List.map_cons]; exact List.nodup_cons.2 ⟨hx, hn⟩)
      obtain ⟨a, s, b, t, c, rfl, he⟩ := twice f r hr
      exact ⟨x :: a, s, b, t, c, rfl, he⟩

/-! ### rising rows -/
def ins (x : Int) : List Int → List Int
  | [] => [x]
  | y :: r => if x < y then x :: y :: r else if x = y then y :: r else y :: ins x r
def sortD : List Int → List Int
  | [] => []
  | x :: r => ins x (sortD r)
theorem mem_ins (x y : Int) : ∀ r, y ∈ ins x r ↔ y = x ∨ y ∈ r
  | [] => by simp [ins]
  | z :: r => by
    unfold ins
    split
    · simp
    · split
      · rename_i h; subst h; simp
      · rw [List.mem_cons, mem_ins x y r, List.mem_cons]
        constructor
        · rintro (h | h | h)
          · exact .inr (.inl h)
          · exact .inl h
          · exact .inr (.inr h)
        · rintro (h | h | h)
          · exact .inr (.inl h)
          · exact .inl h
          · exact .inr (.inr h)
theorem ins_rising (x : Int) : ∀ r : List Int, r.Pairwise (· < ·) → (ins x r).Pairwise (· < ·)
  | [], _ => by simp [ins]
  | z :: r, h => by
    have h' := List.pairwise_cons.1 h
    unfold ins
    split
    · rename_i hlt
      refine List.Pairwise.cons (fun y hy => ?_) h
      rcases List.mem_cons.1 hy with rfl | hy
      · exact hlt
      · have := h'.1 y hy; omega
    · split
      · exact h
      · refine List.Pairwise.cons (fun y hy => ?_) (ins_rising x r h'.2)
        rcases (mem_ins x y r).1 hy with rfl | hy
        · omega
        · exact h'.1 y hy
theorem mem_sortD (y : Int) : ∀ r, y ∈ sortD r ↔ y ∈ r
  | [] => Iff.rfl
  | x :: r => by rw [sortD, mem_ins, mem_sortD y r, List.mem_cons]
theorem sortD_rising : ∀ r, (sortD r).Pairwise (· < ·)
  | [] => List.Pairwise.nil
  | x :: r => ins_rising x _ (sortD_rising r)
theorem rising_nodup {r : List Int} (h : r.Pairwise (· < ·)) : r.Nodup := h.imp (fun {a b} hab e => by omega)
theorem rising_eq {a b : List Int} (ha : a.Pairwise (· < ·)) (hb : b.Pairwise (· < ·)) (h : ∀ x, x ∈ a ↔ x ∈ b) : a = b :=
  List.Perm.eq_of_pairwise (le := fun x y : Int => x < y) (fun x y _ _ h1 h2 => by omega) ha hb ((List.perm_ext_iff_of_nodup (rising_nodup ha) (rising_nodup hb)).2 h)
theorem ins_len (x : Int) : ∀ r : List Int, (ins x r).length ≤ r.length + 1
  | [] => by simp [ins]
  | y :: r => by
    have := ins_len x r
    unfold ins
    split
    · simp
    · split
      · simp
      · simp; omega
theorem sortD_len : ∀ r : List Int, (sortD r).length ≤ r.length
  | [] => by simp [sortD]
  | x :: r => by
    have := sortD_len r
    have := ins_len x (sortD r)
    rw [sortD, List.length_cons]; omega
variable (fr to : α → Int)

/-! ### chains -/
def chain : List α → Int → Int → Prop
  | [], a, b => a = b
  | s :: r, a, b => fr s = a ∧ chain r (to s) b
theorem chain_append : ∀ (r q : List α) (a b : Int), chain fr to (r ++ q) a b ↔ ∃ c, chain fr to r a c ∧ chain fr to q c b
  | [], q, a, b => by simp [chain]
  | s :: r, q, a, b => by
    simp only [List.cons_append, chain, chain_append r q]
    constructor
    · rintro ⟨h, c, h1, h2⟩; exact ⟨c, ⟨h, h1⟩, h2⟩
    · rintro ⟨c, ⟨h, h1⟩, h2⟩; exact ⟨h, c, h1, h2⟩
/-- A chain within l, from a to b, of just n steps. -/
def Walk (l : List α) (a : Int) (n : Nat) (b : Int) : Prop := ∃ r, r.length = n ∧ (∀ s ∈ r, s ∈ l) ∧ chain fr to r a b
/-- Within a chain whose starts are not all different there is a shorter ring. -/
theorem short_of_twice {l r : List α} {a b : Int} (hr : ∀ s ∈ r, s ∈ l) (hc : chain fr to r a b) (hn : ¬ (r.map fr).Nodup) : ∃ c n, 1 ≤ n ∧ n < r.length ∧ Walk fr to l c n c ∧ ∃ s ∈ r, fr s = c := by
  obtain ⟨p, s, q, t, z, rfl, he⟩ := twice fr r hn
  obtain ⟨c, h1, h2⟩ := (chain_append fr to p _ a b).1 hc
  have h3 : chain fr to ((s :: q) ++ t :: z) c b := h2
  obtain ⟨d, h4, h5⟩ := (chain_append fr to (s :: q) (t :: z) c b).1 h3
  have e1 : fr s = c := h2.1
  have e2 : fr t = d := h5.1
  refine ⟨c, (s :: q).length, by simp, by simp; omega, ⟨s :: q, rfl, fun x hx => hr x (by
    rcases List.mem_cons.1 hx with rfl | hx
    · simp
    · simp [hx]), ?_⟩, s, by simp, e1⟩
  rw [show d = c by rw [← e2, ← he, e1]] at h4
  exact h4
/-! ### who reaches a number in just so many steps -/
def lev (l : List α) (t : Int) : Nat → Int → Bool
  | 0, x => decide (x = t)
  | n + 1, x => l.any fun s => decide (fr s = x) && lev l t n (to s)
/-- The first ring of so many steps from a number on. -/
def along (l : List α) (t : Int) : Nat → Int → List α
  | 0, _ => []
  | m + 1, at_ => match l.find? (fun s => decide (fr s = at_) && lev fr to l t m (to s)) with
    | some s => s :: along l t m (to s)
    | none => []
def ringAt (l : List α) (F : List Int) (n : Nat) : Option Int := F.find? fun a => lev fr to l a n a
def ringGo (l : List α) (F : List Int) : Nat → Nat → Option (Int × Nat)
  | 0, _ => none
  | d + 1, n => match ringAt fr to l F n with
    | some a => some (a, n)
    | none => ringGo l F d (n + 1)
def froms (l : List α) : List Int := sortD (l.map fr)
def find1 (l : List α) : Option (Int × Nat) := ringGo fr to l (froms fr l) (froms fr l).length 1
def ring (l : List α) : List α × Bool := match find1 fr to l with
  | some (a, n) => (along fr to l a n a, true)
  | none => ([], false)
/-! ### an order -/
def free (l : List α) (left : List Int) (n : Int) : Bool := l.all fun s => !(decide (to s = n) && decide (fr s ∈ left))
def ordGo (l : List α) : Nat → List Int → List Int → Option (List Int)
  | 0, _, out => some out
  | m + 1, ss, out => if ss = [] then some out else match ss.find? (free fr to l ss) with
    | none => none
    | some n => ordGo l m (ss.filter (fun y => decide (y ≠ n))) (out ++ [n])
def order (l : List α) (nodes : List Int) : Option (List Int) := ordGo fr to l (sortD nodes).length (sortD nodes) []
theorem free_iff {l : List α} {left : List Int} {n : Int} : free fr to l left n = true ↔ ∀ s ∈ l, to s = n → fr s ∉ left := by
  simp only [free, List.all_eq_true, Bool.not_eq_true', Bool.and_eq_false_iff, decide_eq_false_iff_not]
  constructor
  · intro h s hs he
    rcases h s hs with h | h
    · exact absurd he h
    · exact h
  · intro h s hs
    by_cases he : to s = n
    · exact .inr (h s hs he)
    · exact .inl he
/-- Steps lead forward within a row: none from a later one, or from itself, to an earlier one. -/
def Fwd (l : List α) (o : List Int) : Prop := o.Pairwise (fun x y => ∀ s ∈ l, ¬ (fr s = y ∧ to s = x)) ∧ ∀ x ∈ o, ∀ s ∈ l, ¬ (fr s = x ∧ to s = x)
theorem filter_ne_len {ss : List Int} {n : Int} (h : n ∈ ss) (hn : ss.Nodup) : (ss.filter (fun y => decide (y ≠ n))).length + 1 = ss.length := by
  induction ss with
  | nil => cases h
  | cons z r ih =>
    have hz := List.nodup_cons.1 hn
    by_cases e : z = n
    · subst e
      have hr : r.filter (fun y => decide (y ≠ z)) = r := List.filter_eq_self.2 (fun y hy => by simp; rintro rfl; exact hz.1 hy)
      rw [List.filter_cons, if_neg (by simp), hr, List.length_cons]
    · rcases List.mem_cons.1 h with rfl | h
      · exact absurd rfl e
      · have := ih h hz.2
        rw [List.filter_cons, if_pos (by simpa using e), List.length_cons, List.length_cons]; omega
theorem ordGo_some (l : List α) (nodes : List Int) : ∀ m ss out o, ss.length ≤ m → ss.Nodup → (∀ x, x ∈ nodes ↔ x ∈ out ∨ x ∈ ss) → (∀ x ∈ out, x ∉ ss) → out.Nodup → Fwd fr to l out → (∀ x ∈ out, ∀ y ∈ ss, ∀ s ∈ l, ¬ (fr s = y ∧ to s = x)) →
    ordGo fr to l m ss out = some o → o.Nodup ∧ (∀ x, x ∈ o ↔ x ∈ nodes) ∧ Fwd fr to l o
  | 0, ss, out, o, hm, _, hmem, _, hnd, hf, _, h => by
    obtain rfl : ss = [] := List.eq_nil_of_length_eq_zero (by omega)
    injection h with h
    subst h
    exact ⟨hnd, fun x => by rw [hmem x]; simp, hf⟩
  | m + 1, ss, out, o, hm, hsn, hmem, hap, hnd, hf, hback, h => by
    rw [ordGo] at h
    split at h
    · rename_i he
      subst he
      injection h with h
      subst h
      exact ⟨hnd, fun x => by rw [hmem x]; simp, hf⟩
    · split at h
      · cases h
      · rename_i n hn
        obtain ⟨h1, h2⟩ := find_spec hn
        have hfree := (free_iff fr to).1 h2
        have hln := filter_ne_len h1 hsn
        have hmf : ∀ x, x ∈ ss.filter (fun y => decide (y ≠ n)) ↔ x ∈ ss ∧ x ≠ n := fun x => by rw [List.mem_filter]; simp
        refine ordGo_some l nodes m _ _ o (by omega) (hsn.filter _) (fun x => ?_) (fun x hx hxs => ?_) ?_ ?_ ?_ h
        · rw [hmem x, hmf, List.mem_append, List.mem_singleton]
          by_cases e : x = n
          · subst e; simp [h1]
          · simp [e]
        · rw [hmf] at hxs
          rcases List.mem_append.1 hx with hx | hx
          · exact hap x hx hxs.1
          · exact hxs.2 (by simpa using hx)
        · refine List.nodup_append.2 ⟨hnd, by simp, fun x hx y hy e => ?_⟩
          subst e
          obtain rfl : x = n := by simpa using hy
          exact hap x hx h1
        · refine ⟨List.pairwise_append.2 ⟨hf.1, by simp, fun x hx y hy s hs => ?_⟩, fun x hx s hs => ?_⟩
          · obtain rfl : y = n := by simpa using hy
            exact hback x hx y h1 s hs
          · rcases List.mem_append.1 hx with hx | hx
            · exact hf.2 x hx s hs
            · obtain rfl : x = n := by simpa using hx
              exact fun he => hfree s hs he.2 (by rw [he.1]; exact h1)
        · intro x hx y hy s hs he
          rw [hmf] at hy
          rcases List.mem_append.1 hx with hx | hx
          · exact hback x hx y hy.1 s hs he
          · obtain rfl : x = n := by simpa using hx
            exact hfree s hs he.2 (by rw [he.1]; exact hy.1)
theorem order_some {l : List α} {nodes o : List Int} (h : order fr to l nodes = some o) : o.Nodup ∧ (∀ x, x ∈ o ↔ x ∈ nodes) ∧ Fwd fr to l o :=
  ordGo_some fr to l nodes _ _ _ o (Nat.le_refl _) (rising_nodup (sortD_rising _)) (fun x => by rw [mem_sortD]; simp) (fun x hx => by cases hx) List.nodup_nil ⟨List.Pairwise.nil, fun x hx => by cases hx⟩ (fun x hx => by cases hx) h
/-- Where each number of some is led to from one of them there are chains of any length, hence a ring. -/
theorem stuck_chain {l : List α} {ss : List Int} (hs : ∀ n ∈ ss, ∃ s ∈ l, to s = n ∧ fr s ∈ ss) : ∀ m n, n ∈ ss → ∃ r a, r.length = m ∧ (∀ s ∈ r, s ∈ l ∧ fr s ∈ ss ∧ to s ∈ ss) ∧ chain fr to r a n ∧ a ∈ ss
  | 0, n, hn => ⟨[], n, rfl, fun _ h => (by cases h), rfl, hn⟩
  | m + 1, n, hn => by
    obtain ⟨r, a, h1, h2, h3, h4⟩ := stuck_chain hs m n hn
    obtain ⟨s, g1, g2, g3⟩ := hs a h4
    exact ⟨s :: r, fr s, by simp [h1], fun y hy => by
      rcases List.mem_cons.1 hy with rfl | hy
      · exact ⟨g1, g3, by rw [g2]; exact h4⟩
      · exact h2 y hy, ⟨rfl, by rw [g2]; exact h3⟩, g3⟩
theorem stuck_ring {l : List α} {ss : List Int} (hne : ss ≠ []) (hs : ∀ n ∈ ss, ∃ s ∈ l, to s = n ∧ fr s ∈ ss) : ∃ c n, 1 ≤ n ∧ Walk fr to l c n c := by
  obtain ⟨n, hn⟩ := List.exists_mem_of_ne_nil ss hne
  obtain ⟨r, a, h1, h2, h3, h4⟩ := stuck_chain fr to hs (ss.length + 1) n hn
  have hnd : ¬ (r.map fr).Nodup := fun hd => by
    have := hd.length_le_of_subset (l₂ := ss) (fun x hx => by
      obtain ⟨s, hs, rfl⟩ := List.mem_map.1 hx
      exact (h2 s hs).2.1)
    rw [List.length_map] at this; omega
  obtain ⟨c, m, g1, g2, g3, _⟩ := short_of_twice fr to (fun s hs => (h2 s hs).1) h3 hnd
  exact ⟨c, m, g1, g3⟩
theorem ordGo_none (l : List α) : ∀ m ss out, ss.Nodup → ordGo fr to l m ss out = none → ∃ c n, 1 ≤ n ∧ Walk fr to l c n c
  | 0, ss, out, _, h => by cases h
  | m + 1, ss, out, hsn, h => by
    rw [ordGo] at h
    split at h
    · cases h
    · rename_i hne
      split at h
      · rename_i hf
        refine stuck_ring fr to hne fun n hn => ?_
        have := List.find?_eq_none.1 hf n hn
        rw [free_iff] at this
        simp only [Classical.not_forall] at this
        obtain ⟨s, hs, he, hin⟩ := this
        exact ⟨s, hs, he, Decidable.not_not.1 hin⟩
      · exact ordGo_none l m _ _ (hsn.filter _) h
theorem order_none {l : List α} {nodes : List Int} (h : order fr to l nodes = none) : ∃ c n, 1 ≤ n ∧ Walk fr to l c n c := ordGo_none fr to l _ _ _ (rising_nodup (sortD_rising _)) h
/-- Where steps go forward within a row that has all their numbers, there is no ring. -/
theorem fwd_chain {l : List α} {o : List Int} (hf : Fwd fr to l o) (hl : ∀ s ∈ l, fr s ∈ o ∧ to s ∈ o) : ∀ (r : List α) (a b : Int), r ≠ [] → (∀ s ∈ r, s ∈ l) → chain fr to r a b → o.idxOf a < o.idxOf b
  | [], _, _, h, _, _ => absurd rfl h
  | s :: r, a, b, _, hr, hc => by
    have hs := hr s (by simp)
    have hst : o.idxOf a < o.idxOf (to s) := by
      rw [← hc.1]
      have h1 := (hl s hs).1
      have h2 := (hl s hs).2
      have g1 := List.idxOf_lt_length_iff.2 h1
      have g2 := List.idxOf_lt_length_iff.2 h2
      have e1 : o[o.idxOf (fr s)] = fr s := List.getElem_idxOf g1
      have e2 : o[o.idxOf (to s)] = to s := List.getElem_idxOf g2
      rcases Nat.lt_trichotomy (o.idxOf (fr s)) (o.idxOf (to s)) with h | h | h
      · exact h
      · exfalso
        have : fr s = to s := by rw [← e1, ← e2]; simp only [h]
        exact hf.2 (fr s) h1 s hs ⟨rfl, this.symm⟩
      · exfalso
        exact List.pairwise_iff_getElem.1 hf.1 _ _ g2 g1 h s hs ⟨e1.symm, e2.symm⟩
    match r, hc with
    | [], hc => have : to s = b := hc.2; rw [← this]; exact hst
    | t :: r, hc => exact Nat.lt_trans hst (fwd_chain hf hl (t :: r) (to s) b (by simp) (fun y hy => hr y (by simp [hy])) hc.2)
theorem fwd_no_ring {l : List α} {o : List Int} (hf : Fwd fr to l o) (hl : ∀ s ∈ l, fr s ∈ o ∧ to s ∈ o) : ∀ m c, 1 ≤ m → ¬ Walk fr to l c m c := fun m c hm ⟨r, h1, h2, h3⟩ => by
  have := fwd_chain fr to hf hl r c c (fun e => by rw [e] at h1; simp at h1; omega) h2 h3
  omega
/-- An order is there just if there is no ring (of steps among these numbers). -/
theorem order_or {l : List α} {nodes : List Int} (hl : ∀ s ∈ l, fr s ∈ nodes ∧ to s ∈ nodes) : (∃ o, order fr to l nodes = some o) ↔ ∀ m c, 1 ≤ m → ¬ Walk fr to l c m c := by
  constructor
  · rintro ⟨o, h⟩
    obtain ⟨_, h2, h3⟩ := order_some fr to h
    exact fwd_no_ring fr to h3 fun s hs => ⟨(h2 _).2 (hl s hs).1, (h2 _).2 (hl s hs).2⟩
  · intro h
    cases he : order fr to l nodes with
    | some o => exact ⟨o, rfl⟩
    | none =>
      obtain ⟨c, n, h1, h2⟩ := order_none fr to he
      exact absurd h2 (h n c h1)
end
end
end Go.Proofs.YtebjiimlcnmfpaaGreat.Rg

/-! Steps between numbers: closing a relation under 'one behind the other'; short chains. -/
namespace Go.Proofs.YtebjiimlcnmfpaaGreat.Rg
section
section
variable {α : Type} (fr to : α → Int)

theorem Walk.one {l : List α} {s : α} (h : s ∈ l) : Walk fr to l (fr s) 1 (to s) := ⟨[s], rfl, fun x hx => (by rw [List.mem_singleton.1 hx]; exact h), rfl, rfl⟩
theorem Walk.trans {l : List α} {a b c : Int} {n m : Nat} (h : Walk fr to l a n b) (k : Walk fr to l b m c) : Walk fr to l a (n + m) c := by
  obtain ⟨r, h1, h2, h3⟩ := h
  obtain ⟨q, k1, k2, k3⟩ := k
  exact ⟨r ++ q, by simp [h1, k1], fun x hx => (List.mem_append.1 hx).elim (h2 x) (k2 x), (chain_append fr to r q a c).2 ⟨b, h3, k3⟩⟩

end
end
end Go.Proofs.YtebjiimlcnmfpaaGreat.Rg

/-! Steps under another name: rings and orders are the same. -/
namespace Go.Proofs.YtebjiimlcnmfpaaGreat.Rg
section
section
variable {α β : Type} (fr to : α → Int) (g : β → α)

end
end
end Go.Proofs.YtebjiimlcnmfpaaGreat.Rg

/-! The document's order, by rows that may have numbers twice: the same. -/
namespace Go.Proofs.YtebjiimlcnmfpaaGreat.Rg
section
section
variable {α : Type} (fr to : α → Int)

/-! ### forward -/
/-- The place of a number; -1: none. -/
def plc : List Int → Int → Int → Int
  | [], _, _ => -1
  | x :: r, n, i => if x = n then i else plc r n (i + 1)
theorem plc_spec (n : Int) : ∀ (o : List Int) (i : Nat), (n ∉ o ∧ plc o n i = -1) ∨ (n ∈ o ∧ plc o n i = ((i + o.idxOf n : Nat) : Int))
  | [], i => .inl ⟨by simp, rfl⟩
  | x :: r, i => by
    rw [plc]
    by_cases h : x = n
    · subst h
      exact .inr ⟨by simp, by simp⟩
    · rw [if_neg h]
      rcases plc_spec n r (i + 1) with ⟨h1, h2⟩ | ⟨h1, h2⟩
      · exact .inl ⟨by simp [h1, Ne.symm h], by exact_mod_cast h2⟩
      · refine .inr ⟨by simp [h1], ?_⟩
        rw [show ((i : Int) + 1) = ((i + 1 : Nat) : Int) by omega, h2, List.idxOf_cons, show (x == n) = false by simpa using h]
        simp
        omega
/-- Do all steps go forward? -/
def forward (l : List α) (o : List Int) : Bool := decide o.Nodup && l.all fun s => !(decide (0 ≤ plc o (fr s) 0) && (decide (0 ≤ plc o (to s) 0) && decide (plc o (to s) 0 ≤ plc o (fr s) 0)))
theorem forward_iff {l : List α} {o : List Int} : forward fr to l o = true ↔ o.Nodup ∧ ∀ s ∈ l, fr s ∈ o → to s ∈ o → o.idxOf (fr s) < o.idxOf (to s) := by
  unfold forward
  rw [Bool.and_eq_true, decide_eq_true_eq, List.all_eq_true]
  refine and_congr_right fun _ => ?_
  refine forall_congr' fun s => forall_congr' fun hs => ?_
  rcases plc_spec (fr s) o 0 with ⟨h1, h2⟩ | ⟨h1, h2⟩ <;> rcases plc_spec (to s) o 0 with ⟨g1, g2⟩ | ⟨g1, g2⟩ <;> simp only [Int.natCast_zero] at h2 g2 <;> rw [h2, g2]
  · simp [h1]
  · simp [h1]
  · simp [g1]
  · simp only [h1, g1, true_implies]
    simp
/-! ### closed -/
def closed (l : List α) : Prop := ∃ a, l ≠ [] ∧ chain fr to l a a
end
end
end Go.Proofs.YtebjiimlcnmfpaaGreat.Rg
