/-
  Steps between numbers: chains, the shortest ring, orders; plain lists, no program.
-/

/-! Steps between numbers: chains, who reaches whom in just so many, the shortest ring, an order. Plain lists, no program. -/
set_option linter.unusedVariables false
set_option linter.unusedSimpArgs false
namespace Go.Proofs.YtebjiimlcnmfpaaGreat.Rg
section
section
variable {α : Type}

/-! ### lists -/
theorem find_spec {p : α → Bool} {l : List α} {x : α} (h : l.find? p = some x) : x ∈ l ∧ p x = true := ⟨List.mem_of_find?_eq_some h, List.find?_some h⟩
/-- Where a row of f's values has one twice. -/
theorem twice {β : Type} [DecidableEq β] (f : α → β) : ∀ r : List α, ¬ (r.map f).Nodup → ∃ a s b t c, r = a ++ s :: (b ++ t :: c) ∧ f s = f t
  | [], h => absurd List.nodup_nil h
  | x :: r, h => by
    by_cases hx : f x ∈ r.map f
    · obtain ⟨t, ht, he⟩ := List.mem_map.1 hx
      obtain ⟨b, c, rfl⟩ := List.append_of_mem ht
      exact ⟨[], x, b, t, c, rfl, he.symm⟩
    · have hr : ¬ (r.map f).Nodup := fun hn => h (by rw [List.map_cons]; exact List.nodup_cons.2 ⟨hx, hn⟩)
      obtain ⟨a, s, b, t, c, rfl, he⟩ := twice f r hr
      exact ⟨x :: a, s, b, t, c, rfl, he⟩

/-! ### rising rows -/
def ins (x : Int) : List Int → List Int
  | [] => [x]
  | y :: r => if x < y then x :: y :: r else if x = y then y :: r else y :: ins x r
def sortD : List Int → List Int
  | [] => []
  | x :: r => ins x (sortD r)
theorem mem_ins (x y : Int) : ∀ r, y ∈ ins x r ↔ y = x ∨ y ∈ r
  | [] => by simp [ins]
  | z :: r => by
    unfold ins
    split
    · simp
    · split
      · rename_i h; subst h; simp
      · rw [List.mem_cons, mem_ins x y r, List.mem_cons]
        constructor
        · rintro (h | h | h)
          · exact .inr (.inl h)
          · exact .inl h
          · exact .inr (.inr h)
        · rintro (h | h | h)
          · exact .inr (.inl h)
          · exact .inl h
          · exact .inr (.inr h)
theorem ins_rising (x : Int) : ∀ r : List Int, r.Pairwise (· < ·) → (ins x r).Pairwise (· < ·)
  | [], _ => by simp [ins]
  | z :: r, h => by
    have h' := List.pairwise_cons.1 h
    unfold ins
    split
    · rename_i hlt
      refine List.Pairwise.cons (fun y hy => ?_) h
      rcases List.mem_cons.1 hy with rfl | hy
      · exact hlt
      · have := h'.1 y hy; omega
    · split
      · exact h
      · refine List.Pairwise.cons (fun y hy => ?_) (ins_rising x r h'.2)
        rcases (mem_ins x y r).1 hy with rfl | hy
        · omega
        · exact h'.1 y hy
theorem mem_sortD (y : Int) : ∀ r, y ∈ sortD r ↔ y ∈ r
  | [] => Iff.rfl
  | x :: r => by rw [sortD, mem_ins, mem_sortD y r, List.mem_cons]
theorem sortD_rising : ∀ r, (sortD r).Pairwise (· < ·)
  | [] => List.Pairwise.nil
  | x :: r => ins_rising x _ (sortD_rising r)
theorem rising_nodup {r : List Int} (h : r.Pairwise (· < ·)) : r.Nodup := h.imp (fun {a b} hab e => by omega)
theorem rising_eq {a b : List Int} (ha : a.Pairwise (· < ·)) (hb : b.Pairwise (· < ·)) (h : ∀ x, x ∈ a ↔ x ∈ b) : a = b :=
  List.Perm.eq_of_pairwise (le := fun x y : Int => x < y) (fun x y _ _ h1 h2 => by omega) ha hb ((List.perm_ext_iff_of_nodup (rising_nodup ha) (rising_nodup hb)).2 h)
theorem ins_len (x : Int) : ∀ r : List Int, (ins x r).length ≤ r.length + 1
  | [] => by simp [ins]
  | y :: r => by
    have := ins_len x r
    unfold ins
    split
    · simp
    · split
      · simp
      · simp; omega
theorem sortD_len : ∀ r : List Int, (sortD r).length ≤ r.length
  | [] => by simp [sortD]
  | x :: r => by
    have := sortD_len r
    have := ins_len x (sortD r)
    rw [sortD, List.length_cons]; omega
/-- The first of a rising row of which p holds is the least one. -/
theorem rising_find {p : Int → Bool} {r : List Int} (h : r.Pairwise (· < ·)) {x : Int} (hf : r.find? p = some x) : x ∈ r ∧ p x = true ∧ ∀ y ∈ r, p y = true → x ≤ y := by
  induction r with
  | nil => cases hf
  | cons z r ih =>
    have h' := List.pairwise_cons.1 h
    rw [List.find?_cons] at hf
    split at hf
    · rename_i hz
      injection hf with hf
      subst hf
      refine ⟨by simp, hz, fun y hy _ => ?_⟩
      rcases List.mem_cons.1 hy with rfl | hy
      · omega
      · have := h'.1 y hy; omega
    · rename_i hz
      obtain ⟨h1, h2, h3⟩ := ih h'.2 hf
      refine ⟨by simp [h1], h2, fun y hy hp => ?_⟩
      rcases List.mem_cons.1 hy with rfl | hy
      · rw [hp] at hz; cases hz
      · exact h3 y hy hp
theorem find_least {p : Int → Bool} {r : List Int} (h : r.Pairwise (· < ·)) {x : Int} (hx : x ∈ r) (hp : p x = true) (hl : ∀ y ∈ r, p y = true → x ≤ y) : r.find? p = some x := by
  cases hf : r.find? p with
  | none => exact absurd hp (by simpa using List.find?_eq_none.1 hf x hx)
  | some y =>
    obtain ⟨h1, h2, h3⟩ := rising_find h hf
    have := hl y h1 h2
    have := h3 x hx hp
    rw [show y = x by omega]

variable (fr to : α → Int)

/-! ### chains -/
def chain : List α → Int → Int → Prop
  | [], a, b => a = b
  | s :: r, a, b => fr s = a ∧ chain r (to s) b
theorem chain_append : ∀ (r q : List α) (a b : Int), chain fr to (r ++ q) a b ↔ ∃ c, chain fr to r a c ∧ chain fr to q c b
  | [], q, a, b => by simp [chain]
  | s :: r, q, a, b => by
    simp only [List.cons_append, chain, chain_append r q]
    constructor
    · rintro ⟨h, c, h1, h2⟩; exact ⟨c, ⟨h, h1⟩, h2⟩
    · rintro ⟨c, ⟨h, h1⟩, h2⟩; exact ⟨h, c, h1, h2⟩
/-- A chain within l, from a to b, of just n steps. -/
def Walk (l : List α) (a : Int) (n : Nat) (b : Int) : Prop := ∃ r, r.length = n ∧ (∀ s ∈ r, s ∈ l) ∧ chain fr to r a b
/-- Within a chain whose starts are not all different there is a shorter ring. -/
theorem short_of_twice {l r : List α} {a b : Int} (hr : ∀ s ∈ r, s ∈ l) (hc : chain fr to r a b) (hn : ¬ (r.map fr).Nodup) : ∃ c n, 1 ≤ n ∧ n < r.length ∧ Walk fr to l c n c ∧ ∃ s ∈ r, fr s = c := by
  obtain ⟨p, s, q, t, z, rfl, he⟩ := twice fr r hn
  obtain ⟨c, h1, h2⟩ := (chain_append fr to p _ a b).1 hc
  have h3 : chain fr to ((s :: q) ++ t :: z) c b := h2
  obtain ⟨d, h4, h5⟩ := (chain_append fr to (s :: q) (t :: z) c b).1 h3
  have e1 : fr s = c := h2.1
  have e2 : fr t = d := h5.1
  refine ⟨c, (s :: q).length, by simp, by simp; omega, ⟨s :: q, rfl, fun x hx => hr x (by
    rcases List.mem_cons.1 hx with rfl | hx
    · simp
    · simp [hx]), ?_⟩, s, by simp, e1⟩
  rw [show d = c by rw [← e2, ← he, e1]] at h4
  exact h4
/-- The shortest ring has no more steps than there are numbers at which steps begin. -/
theorem ring_short (l : List α) (F : List Int) (hF : ∀ s ∈ l, fr s ∈ F) : ∀ n a, 1 ≤ n → Walk fr to l a n a → ∃ c m, 1 ≤ m ∧ m ≤ n ∧ m ≤ F.length ∧ Walk fr to l c m c ∧ c ∈ F := by
  intro n
  induction n using Nat.strongRecOn with
  | _ n ih =>
    intro a h1 hw
    by_cases hle : n ≤ F.length
    · refine ⟨a, n, h1, Nat.le_refl _, hle, hw, ?_⟩
      obtain ⟨r, hl, hr, hc⟩ := hw
      match r, hl, hr, hc with
      | [], hl, _, _ => simp at hl; omega
      | s :: r, _, hr, hc => rw [← hc.1]; exact hF s (hr s (by simp))
    · obtain ⟨r, hl, hr, hc⟩ := hw
      have hn : ¬ (r.map fr).Nodup := fun hn => by
        have := hn.length_le_of_subset (l₂ := F) (fun x hx => by
          obtain ⟨s, hs, rfl⟩ := List.mem_map.1 hx
          exact hF s (hr s hs))
        rw [List.length_map] at this; omega
      obtain ⟨c, m, hm1, hm2, hw', _⟩ := short_of_twice fr to hr hc hn
      obtain ⟨c', m', g1, g2, g3, g4⟩ := ih m (by omega) c hm1 hw'
      exact ⟨c', m', g1, by omega, g3, g4⟩

/-! ### who reaches a number in just so many steps -/
def lev (l : List α) (t : Int) : Nat → Int → Bool
  | 0, x => decide (x = t)
  | n + 1, x => l.any fun s => decide (fr s = x) && lev l t n (to s)
theorem lev_walk (l : List α) (t : Int) : ∀ n x, lev fr to l t n x = true ↔ Walk fr to l x n t
  | 0, x => by
    simp only [lev, decide_eq_true_eq]
    constructor
    · rintro rfl; exact ⟨[], rfl, fun _ h => (by cases h), rfl⟩
    · rintro ⟨r, hl, _, hc⟩
      obtain rfl : r = [] := List.eq_nil_of_length_eq_zero hl
      exact hc
  | n + 1, x => by
    simp only [lev, List.any_eq_true, Bool.and_eq_true, decide_eq_true_eq]
    constructor
    · rintro ⟨s, hs, he, hl⟩
      obtain ⟨r, h1, h2, h3⟩ := (lev_walk l t n (to s)).1 hl
      exact ⟨s :: r, by simp [h1], fun y hy => by
        rcases List.mem_cons.1 hy with rfl | hy
        · exact hs
        · exact h2 y hy, he, h3⟩
    · rintro ⟨r, hl, hr, hc⟩
      match r, hl, hr, hc with
      | s :: r, hl, hr, hc => exact ⟨s, hr s (by simp), hc.1, (lev_walk l t n (to s)).2 ⟨r, by simpa using hl, fun y hy => hr y (by simp [hy]), hc.2⟩⟩

/-- The first ring of so many steps from a number on. -/
def along (l : List α) (t : Int) : Nat → Int → List α
  | 0, _ => []
  | m + 1, at_ => match l.find? (fun s => decide (fr s = at_) && lev fr to l t m (to s)) with
    | some s => s :: along l t m (to s)
    | none => []
theorem along_hit {l : List α} {t : Int} {m : Nat} {x : Int} (h : lev fr to l t (m + 1) x = true) : ∃ s, l.find? (fun s => decide (fr s = x) && lev fr to l t m (to s)) = some s ∧ s ∈ l ∧ fr s = x ∧ lev fr to l t m (to s) = true := by
  simp only [lev, List.any_eq_true] at h
  obtain ⟨s, hs, h2⟩ := h
  cases hf : l.find? (fun s => decide (fr s = x) && lev fr to l t m (to s)) with
  | none => exact absurd h2 (by simpa using List.find?_eq_none.1 hf s hs)
  | some s' =>
    obtain ⟨h3, h4⟩ := find_spec hf
    rw [Bool.and_eq_true, decide_eq_true_eq] at h4
    exact ⟨s', rfl, h3, h4.1, h4.2⟩
theorem along_spec (l : List α) (t : Int) : ∀ m x, lev fr to l t m x = true → (along fr to l t m x).length = m ∧ (∀ s ∈ along fr to l t m x, s ∈ l) ∧ chain fr to (along fr to l t m x) x t
  | 0, x, h => ⟨rfl, fun _ h => (by cases h), (by simpa [lev] using h : x = t)⟩
  | m + 1, x, h => by
    obtain ⟨s, hf, hs, he, hl⟩ := along_hit fr to h
    obtain ⟨h1, h2, h3⟩ := along_spec l t m (to s) hl
    have e : along fr to l t (m + 1) x = s :: along fr to l t m (to s) := by rw [along, hf]
    rw [e]
    exact ⟨by simp [h1], fun y hy => by
      rcases List.mem_cons.1 hy with rfl | hy
      · exact hs
      · exact h2 y hy, he, h3⟩

def ringAt (l : List α) (F : List Int) (n : Nat) : Option Int := F.find? fun a => lev fr to l a n a
def ringGo (l : List α) (F : List Int) : Nat → Nat → Option (Int × Nat)
  | 0, _ => none
  | d + 1, n => match ringAt fr to l F n with
    | some a => some (a, n)
    | none => ringGo l F d (n + 1)
theorem ringGo_some (l : List α) (F : List Int) : ∀ d n a m, ringGo fr to l F d n = some (a, m) → n ≤ m ∧ m < n + d ∧ ringAt fr to l F m = some a ∧ ∀ j, n ≤ j → j < m → ringAt fr to l F j = none
  | 0, n, a, m, h => by cases h
  | d + 1, n, a, m, h => by
    rw [ringGo] at h
    split at h
    · rename_i a' ha
      injection h with h
      injection h with h1 h2
      subst h1; subst h2
      exact ⟨Nat.le_refl _, by omega, ha, fun j h1 h2 => by omega⟩
    · rename_i hn
      obtain ⟨h1, h2, h3, h4⟩ := ringGo_some l F d (n + 1) a m h
      exact ⟨by omega, by omega, h3, fun j hj hm => by
        by_cases e : j = n
        · subst e; exact hn
        · exact h4 j (by omega) hm⟩
theorem ringGo_none (l : List α) (F : List Int) : ∀ d n, ringGo fr to l F d n = none → ∀ j, n ≤ j → j < n + d → ringAt fr to l F j = none
  | 0, n, h, j, h1, h2 => by omega
  | d + 1, n, h, j, h1, h2 => by
    rw [ringGo] at h
    split at h
    · cases h
    · rename_i hn
      by_cases e : j = n
      · subst e; exact hn
      · exact ringGo_none l F d (n + 1) h j (by omega) (by omega)
def froms (l : List α) : List Int := sortD (l.map fr)
def find1 (l : List α) : Option (Int × Nat) := ringGo fr to l (froms fr l) (froms fr l).length 1
def ring (l : List α) : List α × Bool := match find1 fr to l with
  | some (a, n) => (along fr to l a n a, true)
  | none => ([], false)
theorem ringAt_none {l : List α} {F : List Int} {n : Nat} (h : ringAt fr to l F n = none) {c : Int} (hc : c ∈ F) : ¬ Walk fr to l c n c := fun hw => by
  have := List.find?_eq_none.1 h c hc
  exact this ((lev_walk fr to l c n c).2 hw)
theorem mem_froms {l : List α} {s : α} (h : s ∈ l) : fr s ∈ froms fr l := (mem_sortD _ _).2 (List.mem_map.2 ⟨s, h, rfl⟩)
/-- What the ring that is told is. -/
theorem find1_some {l : List α} {a : Int} {n : Nat} (h : find1 fr to l = some (a, n)) : 1 ≤ n ∧ Walk fr to l a n a ∧ lev fr to l a n a = true ∧ ∀ m c, 1 ≤ m → Walk fr to l c m c → n ≤ m := by
  obtain ⟨h1, h2, h3, h4⟩ := ringGo_some fr to l _ _ _ _ _ h
  have hl := (find_spec h3).2
  refine ⟨h1, (lev_walk fr to l a n a).1 hl, hl, fun m c hm hw => ?_⟩
  obtain ⟨c', m', g1, g2, g3, g4, g5⟩ := ring_short fr to l (froms fr l) (fun s hs => mem_froms fr hs) m c hm hw
  rcases Nat.lt_or_ge m' n with hlt | hge
  · exact absurd g4 (ringAt_none fr to (h4 m' g1 hlt) g5)
  · omega
theorem find1_none {l : List α} (h : find1 fr to l = none) : ∀ m c, 1 ≤ m → ¬ Walk fr to l c m c := fun m c hm hw => by
  obtain ⟨c', m', g1, g2, g3, g4, g5⟩ := ring_short fr to l (froms fr l) (fun s hs => mem_froms fr hs) m c hm hw
  exact ringAt_none fr to (ringGo_none fr to l _ _ _ h m' g1 (by omega)) g5 g4

/-! ### an order -/
def free (l : List α) (left : List Int) (n : Int) : Bool := l.all fun s => !(decide (to s = n) && decide (fr s ∈ left))
def ordGo (l : List α) : Nat → List Int → List Int → Option (List Int)
  | 0, _, out => some out
  | m + 1, ss, out => if ss = [] then some out else match ss.find? (free fr to l ss) with
    | none => none
    | some n => ordGo l m (ss.filter (fun y => decide (y ≠ n))) (out ++ [n])
def order (l : List α) (nodes : List Int) : Option (List Int) := ordGo fr to l (sortD nodes).length (sortD nodes) []
theorem free_iff {l : List α} {left : List Int} {n : Int} : free fr to l left n = true ↔ ∀ s ∈ l, to s = n → fr s ∉ left := by
  simp only [free, List.all_eq_true, Bool.not_eq_true', Bool.and_eq_false_iff, decide_eq_false_iff_not]
  constructor
  · intro h s hs he
    rcases h s hs with h | h
    · exact absurd he h
    · exact h
  · intro h s hs
    by_cases he : to s = n
    · exact .inr (h s hs he)
    · exact .inl he
/-- Steps lead forward within a row: none from a later one, or from itself, to an earlier one. -/
def Fwd (l : List α) (o : List Int) : Prop := o.Pairwise (fun x y => ∀ s ∈ l, ¬ (fr s = y ∧ to s = x)) ∧ ∀ x ∈ o, ∀ s ∈ l, ¬ (fr s = x ∧ to s = x)
theorem filter_ne_len {ss : List Int} {n : Int} (h : n ∈ ss) (hn : ss.Nodup) : (ss.filter (fun y => decide (y ≠ n))).length + 1 = ss.length := by
  induction ss with
  | nil => cases h
  | cons z r ih =>
    have hz := List.nodup_cons.1 hn
    by_cases e : z = n
    · subst e
      have hr : r.filter (fun y => decide (y ≠ z)) = r := List.filter_eq_self.2 (fun y hy => by simp; rintro rfl; exact hz.1 hy)
      rw [List.filter_cons, if_neg (by simp), hr, List.length_cons]
    · rcases List.mem_cons.1 h with rfl | h
      · exact absurd rfl e
      · have := ih h hz.2
        rw [List.filter_cons, if_pos (by simpa using e), List.length_cons, List.length_cons]; omega
theorem ordGo_some (l : List α) (nodes : List Int) : ∀ m ss out o, ss.length ≤ m → ss.Nodup → (∀ x, x ∈ nodes ↔ x ∈ out ∨ x ∈ ss) → (∀ x ∈ out, x ∉ ss) → out.Nodup → Fwd fr to l out → (∀ x ∈ out, ∀ y ∈ ss, ∀ s ∈ l, ¬ (fr s = y ∧ to s = x)) →
    ordGo fr to l m ss out = some o → o.Nodup ∧ (∀ x, x ∈ o ↔ x ∈ nodes) ∧ Fwd fr to l o
  | 0, ss, out, o, hm, _, hmem, _, hnd, hf, _, h => by
    obtain rfl : ss = [] := List.eq_nil_of_length_eq_zero (by omega)
    injection h with h
    subst h
    exact ⟨hnd, fun x => by rw [hmem x]; simp, hf⟩
  | m + 1, ss, out, o, hm, hsn, hmem, hap, hnd, hf, hback, h => by
    rw [ordGo] at h
    split at h
    · rename_i he
      subst he
      injection h with h
      subst h
      exact ⟨hnd, fun x => by rw [hmem x]; simp, hf⟩
    · split at h
      · cases h
      · rename_i n hn
        obtain ⟨h1, h2⟩ := find_spec hn
        have hfree := (free_iff fr to).1 h2
        have hln := filter_ne_len h1 hsn
        have hmf : ∀ x, x ∈ ss.filter (fun y => decide (y ≠ n)) ↔ x ∈ ss ∧ x ≠ n := fun x => by rw [List.mem_filter]; simp
        refine ordGo_some l nodes m _ _ o (by omega) (hsn.filter _) (fun x => ?_) (fun x hx hxs => ?_) ?_ ?_ ?_ h
        · rw [hmem x, hmf, List.mem_append, List.mem_singleton]
          by_cases e : x = n
          · subst e; simp [h1]
          · simp [e]
        · rw [hmf] at hxs
          rcases List.mem_append.1 hx with hx | hx
          · exact hap x hx hxs.1
          · exact hxs.2 (by simpa using hx)
        · refine List.nodup_append.2 ⟨hnd, by simp, fun x hx y hy e => ?_⟩
          subst e
          obtain rfl : x = n := by simpa using hy
          exact hap x hx h1
        · refine ⟨List.pairwise_append.2 ⟨hf.1, by simp, fun x hx y hy s hs => ?_⟩, fun x hx s hs => ?_⟩
          · obtain rfl : y = n := by simpa using hy
            exact hback x hx y h1 s hs
          · rcases List.mem_append.1 hx with hx | hx
            · exact hf.2 x hx s hs
            · obtain rfl : x = n := by simpa using hx
              exact fun he => hfree s hs he.2 (by rw [he.1]; exact h1)
        · intro x hx y hy s hs he
          rw [hmf] at hy
          rcases List.mem_append.1 hx with hx | hx
          · exact hback x hx y hy.1 s hs he
          · obtain rfl : x = n := by simpa using hx
            exact hfree s hs he.2 (by rw [he.1]; exact hy.1)
theorem order_some {l : List α} {nodes o : List Int} (h : order fr to l nodes = some o) : o.Nodup ∧ (∀ x, x ∈ o ↔ x ∈ nodes) ∧ Fwd fr to l o :=
  ordGo_some fr to l nodes _ _ _ o (Nat.le_refl _) (rising_nodup (sortD_rising _)) (fun x => by rw [mem_sortD]; simp) (fun x hx => by cases hx) List.nodup_nil ⟨List.Pairwise.nil, fun x hx => by cases hx⟩ (fun x hx => by cases hx) h
/-- Where each number of some is led to from one of them there are chains of any length, hence a ring. -/
theorem stuck_chain {l : List α} {ss : List Int} (hs : ∀ n ∈ ss, ∃ s ∈ l, to s = n ∧ fr s ∈ ss) : ∀ m n, n ∈ ss → ∃ r a, r.length = m ∧ (∀ s ∈ r, s ∈ l ∧ fr s ∈ ss ∧ to s ∈ ss) ∧ chain fr to r a n ∧ a ∈ ss
  | 0, n, hn => ⟨[], n, rfl, fun _ h => (by cases h), rfl, hn⟩
  | m + 1, n, hn => by
    obtain ⟨r, a, h1, h2, h3, h4⟩ := stuck_chain hs m n hn
    obtain ⟨s, g1, g2, g3⟩ := hs a h4
    exact ⟨s :: r, fr s, by simp [h1], fun y hy => by
      rcases List.mem_cons.1 hy with rfl | hy
      · exact ⟨g1, g3, by rw [g2]; exact h4⟩
      · exact h2 y hy, ⟨rfl, by rw [g2]; exact h3⟩, g3⟩
theorem stuck_ring {l : List α} {ss : List Int} (hne : ss ≠ []) (hs : ∀ n ∈ ss, ∃ s ∈ l, to s = n ∧ fr s ∈ ss) : ∃ c n, 1 ≤ n ∧ Walk fr to l c n c := by
  obtain ⟨n, hn⟩ := List.exists_mem_of_ne_nil ss hne
  obtain ⟨r, a, h1, h2, h3, h4⟩ := stuck_chain fr to hs (ss.length + 1) n hn
  have hnd : ¬ (r.map fr).Nodup := fun hd => by
    have := hd.length_le_of_subset (l₂ := ss) (fun x hx => by
      obtain ⟨s, hs, rfl⟩ := List.mem_map.1 hx
      exact (h2 s hs).2.1)
    rw [List.length_map] at this; omega
  obtain ⟨c, m, g1, g2, g3, _⟩ := short_of_twice fr to (fun s hs => (h2 s hs).1) h3 hnd
  exact ⟨c, m, g1, g3⟩
theorem ordGo_none (l : List α) : ∀ m ss out, ss.Nodup → ordGo fr to l m ss out = none → ∃ c n, 1 ≤ n ∧ Walk fr to l c n c
  | 0, ss, out, _, h => by cases h
  | m + 1, ss, out, hsn, h => by
    rw [ordGo] at h
    split at h
    · cases h
    · rename_i hne
      split at h
      · rename_i hf
        refine stuck_ring fr to hne fun n hn => ?_
        have := List.find?_eq_none.1 hf n hn
        rw [free_iff] at this
        simp only [Classical.not_forall] at this
        obtain ⟨s, hs, he, hin⟩ := this
        exact ⟨s, hs, he, Decidable.not_not.1 hin⟩
      · exact ordGo_none l m _ _ (hsn.filter _) h
theorem order_none {l : List α} {nodes : List Int} (h : order fr to l nodes = none) : ∃ c n, 1 ≤ n ∧ Walk fr to l c n c := ordGo_none fr to l _ _ _ (rising_nodup (sortD_rising _)) h
end
end
end Go.Proofs.YtebjiimlcnmfpaaGreat.Rg

/-! Steps between numbers: closing a relation under 'one behind the other'; short chains. -/
namespace Go.Proofs.YtebjiimlcnmfpaaGreat.Rg
section
section
variable {α : Type} (fr to : α → Int)

theorem Walk.one {l : List α} {s : α} (h : s ∈ l) : Walk fr to l (fr s) 1 (to s) := ⟨[s], rfl, fun x hx => (by rw [List.mem_singleton.1 hx]; exact h), rfl, rfl⟩
theorem Walk.trans {l : List α} {a b c : Int} {n m : Nat} (h : Walk fr to l a n b) (k : Walk fr to l b m c) : Walk fr to l a (n + m) c := by
  obtain ⟨r, h1, h2, h3⟩ := h
  obtain ⟨q, k1, k2, k3⟩ := k
  exact ⟨r ++ q, by simp [h1, k1], fun x hx => (List.mem_append.1 hx).elim (h2 x) (k2 x), (chain_append fr to r q a c).2 ⟨b, h3, k3⟩⟩

end
end
end Go.Proofs.YtebjiimlcnmfpaaGreat.Rg

/-! Steps under another name: rings and orders are the same. -/
namespace Go.Proofs.YtebjiimlcnmfpaaGreat.Rg
section
section
variable {α β : Type} (fr to : α → Int) (g : β → α)

theorem along_mem (l : List α) (t : Int) : ∀ m x, ∀ s ∈ along fr to l t m x, s ∈ l
  | 0, x, s, h => by cases h
  | m + 1, x, s, h => by
    rw [along] at h
    split at h
    · rename_i s' hs'
      rcases List.mem_cons.1 h with rfl | h
      · exact (find_spec hs').1
      · exact along_mem l t m _ s h
    · cases h
theorem ring_mem (l : List α) : ∀ s ∈ (ring fr to l).1, s ∈ l := by
  unfold ring
  split
  · exact along_mem fr to l _ _ _
  · intro s h; cases h
/-- A ring that is told: a closed chain of these steps, as short as any. -/
theorem ring_true {l : List α} (h : (ring fr to l).2 = true) : ∃ a n, 1 ≤ n ∧ find1 fr to l = some (a, n) ∧ (ring fr to l).1 = along fr to l a n a ∧ (ring fr to l).1.length = n ∧ chain fr to (ring fr to l).1 a a ∧ ∀ m c, 1 ≤ m → Walk fr to l c m c → n ≤ m := by
  unfold ring at h ⊢
  cases hf : find1 fr to l with
  | none => rw [hf] at h; cases h
  | some p =>
    obtain ⟨a, n⟩ := p
    obtain ⟨h1, h2, h3, h4⟩ := find1_some fr to hf
    obtain ⟨g1, g2, g3⟩ := along_spec fr to l a n a h3
    exact ⟨a, n, h1, rfl, rfl, g1, g3, h4⟩
theorem ring_false {l : List α} (h : (ring fr to l).2 = false) : (∀ m c, 1 ≤ m → ¬ Walk fr to l c m c) ∧ (ring fr to l).1 = [] := by
  unfold ring at h ⊢
  cases hf : find1 fr to l with
  | none => exact ⟨find1_none fr to hf, rfl⟩
  | some p => rw [hf] at h; cases h
end
end
end Go.Proofs.YtebjiimlcnmfpaaGreat.Rg

/-! The document's order, by rows that may have numbers twice: the same. -/
namespace Go.Proofs.YtebjiimlcnmfpaaGreat.Rg
section
section
variable {α : Type} (fr to : α → Int)

/-- The least number of a row of which p holds, found one by one. -/
def bestL (p : Int → Bool) : List Int → Option Int → Option Int
  | [], b => b
  | x :: r, b => bestL p r (if p x = true ∧ (∀ y, b = some y → x < y) then some x else b)
theorem bestL_spec (p : Int → Bool) : ∀ (L : List Int) (b : Option Int), (bestL p L b = none → b = none ∧ ∀ x ∈ L, p x = false) ∧ (∀ y, bestL p L b = some y → (b = some y ∨ (y ∈ L ∧ p y = true)) ∧ (∀ z, b = some z → y ≤ z) ∧ ∀ x ∈ L, p x = true → y ≤ x)
  | [], b => ⟨fun h => ⟨h, fun x hx => by cases hx⟩, fun y h => ⟨.inl h, fun z hz => by have h' : b = some y := h; rw [h'] at hz; injection hz with hz; omega, fun x hx => by cases hx⟩⟩
  | x :: r, b => by
    obtain ⟨h1, h2⟩ := bestL_spec p r (if p x = true ∧ (∀ y, b = some y → x < y) then some x else b)
    by_cases hc : p x = true ∧ (∀ y, b = some y → x < y)
    · rw [if_pos hc] at h1 h2
      have e : bestL p (x :: r) b = bestL p r (some x) := by rw [bestL, if_pos hc]
      refine ⟨fun h => ?_, fun y h => ?_⟩
      · rw [e] at h
        exact absurd (h1 h).1 (by simp)
      · rw [e] at h
        obtain ⟨a, b', c⟩ := h2 y h
        have hyx := b' x rfl
        refine ⟨.inr ?_, fun z hz => by have := hc.2 z hz; omega, fun w hw hpw => ?_⟩
        · rcases a with a | a
          · injection a with a; subst a; exact ⟨by simp, hc.1⟩
          · exact ⟨by simp [a.1], a.2⟩
        · rcases List.mem_cons.1 hw with rfl | hw
          · exact hyx
          · exact c w hw hpw
    · rw [if_neg hc] at h1 h2
      have e : bestL p (x :: r) b = bestL p r b := by rw [bestL, if_neg hc]
      refine ⟨fun h => ?_, fun y h => ?_⟩
      · rw [e] at h
        obtain ⟨a, c⟩ := h1 h
        refine ⟨a, fun w hw => ?_⟩
        rcases List.mem_cons.1 hw with rfl | hw
        · cases hp : p w with
          | false => rfl
          | true => exact absurd ⟨hp, fun y hy => by rw [a] at hy; cases hy⟩ hc
        · exact c w hw
      · rw [e] at h
        obtain ⟨a, b', c⟩ := h2 y h
        refine ⟨a.elim .inl (fun a => .inr ⟨by simp [a.1], a.2⟩), b', fun w hw hpw => ?_⟩
        rcases List.mem_cons.1 hw with rfl | hw
        · simp only [not_and, Classical.not_forall] at hc
          obtain ⟨z, hz, hlt⟩ := hc hpw
          have := b' z hz
          omega
        · exact c w hw hpw
theorem bestL_find (p : Int → Bool) (L ss : List Int) (hs : ss.Pairwise (· < ·)) (hm : ∀ x, x ∈ ss ↔ x ∈ L) : bestL p L none = ss.find? p := by
  obtain ⟨h1, h2⟩ := bestL_spec p L none
  cases hb : bestL p L none with
  | none =>
    symm
    rw [List.find?_eq_none]
    intro x hx
    rw [(h1 hb).2 x ((hm x).1 hx)]
    simp
  | some y =>
    obtain ⟨a, _, c⟩ := h2 y hb
    rcases a with a | a
    · cases a
    · exact (find_least hs ((hm y).2 a.1) a.2 fun z hz hp => c z ((hm z).1 hz) hp).symm
/-- The document's order. -/
def refOrd (l : List α) : Nat → List Int → List Int → Option (List Int)
  | 0, _, out => some out
  | m + 1, L, out => if L = [] then some out else match bestL (free fr to l L) L none with
    | none => none
    | some n => refOrd l m (L.filter (fun y => decide (y ≠ n))) (out ++ [n])
theorem free_congr (l : List α) {L L' : List Int} (h : ∀ x, x ∈ L ↔ x ∈ L') : free fr to l L = free fr to l L' := by
  funext n
  unfold free
  congr 1
  funext s
  rw [show decide (fr s ∈ L) = decide (fr s ∈ L') from decide_eq_decide.2 (h _)]
theorem refOrd_eq (l : List α) : ∀ (m k : Nat) (L ss out : List Int), ss.Pairwise (· < ·) → (∀ x, x ∈ ss ↔ x ∈ L) → ss.length ≤ m → L.length ≤ k → refOrd fr to l k L out = ordGo fr to l m ss out
  | 0, k, L, ss, out, hs, hm, h1, h2 => by
    obtain rfl : ss = [] := List.eq_nil_of_length_eq_zero (by omega)
    obtain rfl : L = [] := List.eq_nil_iff_forall_not_mem.2 fun x hx => by simpa using (hm x).2 hx
    cases k <;> simp [refOrd, ordGo]
  | m + 1, 0, L, ss, out, hs, hm, h1, h2 => by
    obtain rfl : L = [] := List.eq_nil_of_length_eq_zero (by omega)
    obtain rfl : ss = [] := List.eq_nil_iff_forall_not_mem.2 fun x hx => by simpa using (hm x).1 hx
    simp [refOrd, ordGo]
  | m + 1, k + 1, L, ss, out, hs, hm, h1, h2 => by
    rw [refOrd, ordGo]
    by_cases he : L = []
    · subst he
      obtain rfl : ss = [] := List.eq_nil_iff_forall_not_mem.2 fun x hx => by simpa using (hm x).1 hx
      simp
    · have he' : ss ≠ [] := fun e => he (List.eq_nil_iff_forall_not_mem.2 fun x hx => by subst e; simpa using (hm x).2 hx)
      rw [if_neg he, if_neg he', bestL_find _ L ss hs hm, free_congr fr to l (L := L) (L' := ss) (fun x => (hm x).symm)]
      cases hf : ss.find? (free fr to l ss) with
      | none => rfl
      | some n =>
        obtain ⟨hn, _⟩ := find_spec hf
        have hl1 := filter_ne_len hn (rising_nodup hs)
        have hl2 : (L.filter (fun y => decide (y ≠ n))).length + 1 ≤ L.length := by
          have hn' := (hm n).1 hn
          obtain ⟨a, b, rfl⟩ := List.append_of_mem hn'
          have ha := List.length_filter_le (fun y => decide (y ≠ n)) a
          have hb := List.length_filter_le (fun y => decide (y ≠ n)) b
          rw [List.filter_append, List.filter_cons, if_neg (by simp), List.length_append, List.length_append, List.length_cons]
          omega
        exact refOrd_eq l m k _ _ _ (hs.filter _) (fun x => by rw [List.mem_filter, List.mem_filter, hm x]) (by omega) (by omega)
theorem refOrd_order (l : List α) (nodes : List Int) : refOrd fr to l nodes.length nodes [] = order fr to l nodes :=
  refOrd_eq fr to l _ _ _ _ _ (sortD_rising _) (fun x => mem_sortD x nodes) (Nat.le_refl _) (Nat.le_refl _)

/-! ### forward -/
/-- The place of a number; -1: none. -/
def plc : List Int → Int → Int → Int
  | [], _, _ => -1
  | x :: r, n, i => if x = n then i else plc r n (i + 1)
theorem plc_spec (n : Int) : ∀ (o : List Int) (i : Nat), (n ∉ o ∧ plc o n i = -1) ∨ (n ∈ o ∧ plc o n i = ((i + o.idxOf n : Nat) : Int))
  | [], i => .inl ⟨by simp, rfl⟩
  | x :: r, i => by
    rw [plc]
    by_cases h : x = n
    · subst h
      exact .inr ⟨by simp, by simp⟩
    · rw [if_neg h]
      rcases plc_spec n r (i + 1) with ⟨h1, h2⟩ | ⟨h1, h2⟩
      · exact .inl ⟨by simp [h1, Ne.symm h], by exact_mod_cast h2⟩
      · refine .inr ⟨by simp [h1], ?_⟩
        rw [show ((i : Int) + 1) = ((i + 1 : Nat) : Int) by omega, h2, List.idxOf_cons, show (x == n) = false by simpa using h]
        simp
        omega
/-- Do all steps go forward? -/
def forward (l : List α) (o : List Int) : Bool := decide o.Nodup && l.all fun s => !(decide (0 ≤ plc o (fr s) 0) && (decide (0 ≤ plc o (to s) 0) && decide (plc o (to s) 0 ≤ plc o (fr s) 0)))
theorem forward_iff {l : List α} {o : List Int} : forward fr to l o = true ↔ o.Nodup ∧ ∀ s ∈ l, fr s ∈ o → to s ∈ o → o.idxOf (fr s) < o.idxOf (to s) := by
  unfold forward
  rw [Bool.and_eq_true, decide_eq_true_eq, List.all_eq_true]
  refine and_congr_right fun _ => ?_
  refine forall_congr' fun s => forall_congr' fun hs => ?_
  rcases plc_spec (fr s) o 0 with ⟨h1, h2⟩ | ⟨h1, h2⟩ <;> rcases plc_spec (to s) o 0 with ⟨g1, g2⟩ | ⟨g1, g2⟩ <;> simp only [Int.natCast_zero] at h2 g2 <;> rw [h2, g2]
  · simp [h1]
  · simp [h1]
  · simp [g1]
  · simp only [h1, g1, true_implies]
    simp
/-- Of an order that goes forward: what Fwd says of it. -/
theorem fwd_forward {l : List α} {o : List Int} (hn : o.Nodup) (hf : Fwd fr to l o) : forward fr to l o = true := by
  rw [forward_iff]
  refine ⟨hn, fun s hs h1 h2 => ?_⟩
  have g1 := List.idxOf_lt_length_iff.2 h1
  have g2 := List.idxOf_lt_length_iff.2 h2
  have e1 : o[o.idxOf (fr s)] = fr s := List.getElem_idxOf g1
  have e2 : o[o.idxOf (to s)] = to s := List.getElem_idxOf g2
  rcases Nat.lt_trichotomy (o.idxOf (fr s)) (o.idxOf (to s)) with h | h | h
  · exact h
  · exfalso
    have : fr s = to s := by rw [← e1, ← e2]; simp only [h]
    exact hf.2 (fr s) h1 s hs ⟨rfl, this.symm⟩
  · exfalso
    exact List.pairwise_iff_getElem.1 hf.1 _ _ g2 g1 h s hs ⟨e1.symm, e2.symm⟩
/-! ### closed -/
def closed (l : List α) : Prop := ∃ a, l ≠ [] ∧ chain fr to l a a
end
end
end Go.Proofs.YtebjiimlcnmfpaaGreat.Rg
