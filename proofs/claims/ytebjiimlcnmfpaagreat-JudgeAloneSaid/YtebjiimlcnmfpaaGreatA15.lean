/-
  Whether an edge holds. Of a well formed history: its edges hold; where nothing is tainted and an edge holds there is a way of edges.
-/
import Derived.Test.YtebjiimlcnmfpaaGreatA12
import Derived.Test.YtebjiimlcnmfpaaGreatB1
import Derived.Test.YtebjiimlcnmfpaaGreatR1
set_option linter.unusedVariables false
set_option linter.unusedSimpArgs false
namespace Go.Proofs.YtebjiimlcnmfpaaGreat
section
open Go

def overP (l : List Ev) (i : Nat) (to_ : Int) : Prop := (nth l i).val = ByteArray.empty ∨
  (0 ≤ writer l (nth l i).key (nth l i).val ∧ (nth l (writer l (nth l i).key (nth l i).val).toNat).txn ≠ to_ ∧ comOf l (nth l (writer l (nth l i).key (nth l i).val).toNat).txn = true ∧
    endOf l (nth l (writer l (nth l i).key (nth l i).val).toNat).txn < endOf l to_)
instance (l : List Ev) (i : Nat) (t : Int) : Decidable (overP l i t) := by unfold overP; exact inferInstance
/-- Does an edge hold? -/
def holdsP (l : List Ev) (e : Edge) : Prop :=
  comOf l e.from_ = true ∧ comOf l e.to_ = true ∧ e.from_ ≠ e.to_ ∧ 0 ≤ e.i ∧ e.i < l.length ∧ 0 ≤ e.j ∧ e.j < l.length ∧
  (nth l e.i.toNat).key = (nth l e.j.toNat).key ∧ (nth l e.i.toNat).txn = e.from_ ∧ (nth l e.j.toNat).txn = e.to_ ∧
  ((e.kind = 1 ∧ (nth l e.i.toNat).kind = 3 ∧ (nth l e.j.toNat).kind = 3 ∧ endOf l e.from_ < endOf l e.to_) ∨
   (e.kind = 2 ∧ (nth l e.i.toNat).kind = 3 ∧ (nth l e.j.toNat).kind = 2 ∧ (nth l e.i.toNat).val = (nth l e.j.toNat).val) ∨
   (e.kind = 3 ∧ (nth l e.i.toNat).kind = 2 ∧ (nth l e.j.toNat).kind = 3 ∧ overP l e.i.toNat e.to_))
instance (l : List Ev) (e : Edge) : Decidable (holdsP l e) := by unfold holdsP; exact inferInstance
def holds (l : List Ev) (e : Edge) : Bool := decide (holdsP l e)

/-- A value is written in one place. -/
theorem Wf.writer {l : List Ev} (hw : Wf l) {u : Nat} (hu : u < l.length) (hk : (nth l u).kind = 3) : Go.Proofs.YtebjiimlcnmfpaaGreat.writer l (nth l u).key (nth l u).val = u := by
  rcases idx_nth (writes (nth l u).key (nth l u).val) l with ⟨_, h⟩ | ⟨k, hkl, e, h1, _⟩
  · have := h u hu
    simp [writes, hk] at this
  · simp only [writes, Bool.and_eq_true, beq_iff_eq, decide_eq_true_eq] at h1
    have : k = u := by
      rcases Nat.lt_trichotomy k u with z | z | z
      · exact absurd h1.2.2 (hw.once hu z h1.1 hk)
      · exact z
      · exact absurd h1.2.2.symm (hw.once hkl z hk h1.1)
    rw [Go.Proofs.YtebjiimlcnmfpaaGreat.writer, e, this]
theorem Wf.same {l : List Ev} (hw : Wf l) {u v : Nat} (hu : u < l.length) (hv : v < l.length) (hk : (nth l u).kind = 3) (hk' : (nth l v).kind = 3) (h : (nth l u).val = (nth l v).val) : u = v := by
  rcases Nat.lt_trichotomy u v with z | z | z
  · exact absurd h (hw.once hv z hk hk')
  · exact z
  · exact absurd h.symm (hw.once hu z hk' hk)
theorem outer_read {l : List Ev} {i : Nat} (h : outer l i = true) : (nth l i).kind = 2 := by
  unfold outer counts at h
  simp at h
  exact h.1.2.1
theorem seen_wrote {l : List Ev} (hw : Wf l) {key : ByteArray} {i : Nat} (hi : (nth l i).key = key) (h : 0 ≤ seen l (versions l key) i) : Go.Proofs.YtebjiimlcnmfpaaGreat.writer l (nth l i).key (nth l i).val = inth (versions l key) (seen l (versions l key) i).toNat := by
  have hs := seen_range l (versions l key) i
  have hv := seen_val h
  obtain ⟨u, a, b, c, k, _⟩ := vers_good (inth_mem (l := versions l key) (q := (seen l (versions l key) i).toNat) (by omega))
  rw [a, Int.toNat_natCast] at hv
  have := hw.writer b k
  rw [a, hi, ← c, ← hv]
  exact this

theorem of_holds {l : List Ev} (hw : Wf l) {key : ByteArray} {e : Edge} (h : e ∈ ofE l key) : holdsP l e := by
  have hg := of_good h
  obtain ⟨gi, gj, e1, e2, l1, l2, f1, f2, hne, hkey, hc1, hc2, _⟩ := hg
  refine ⟨by rw [f1]; exact hc1, by rw [f2]; exact hc2, by rw [f1, f2]; exact hne, by omega, by omega, by omega, by omega, by rw [e1, e2]; simpa using hkey, by rw [e1, f1]; simp, by rw [e2, f2]; simp, ?_⟩
  unfold ofE at h
  rcases List.mem_append.1 h with h | h
  · obtain ⟨q, hq, he⟩ := List.mem_flatMap.1 h
    have hq' := List.mem_range.1 hq
    have hn := vers_next (l := l) (key := key) (q := q) (by omega)
    obtain ⟨u0, a0, b0, c0, k0, d0⟩ := vers_good (inth_mem (l := versions l key) (q := q) (by omega))
    obtain ⟨u1, a1, b1, c1, k1, d1⟩ := vers_good (inth_mem (l := versions l key) (q := q + 1) (by omega))
    unfold verE at he
    rw [a0, a1, Int.toNat_natCast, Int.toNat_natCast] at he hn
    obtain ⟨_, rfl⟩ := mem_putE he
    exact .inl ⟨rfl, by simpa using k0, by simpa using k1, hn⟩
  · obtain ⟨i, hi, he⟩ := List.mem_flatMap.1 h
    have hi' := List.mem_range.1 hi
    unfold readE at he
    by_cases c1 : (nth l i).key = key ∧ outer l i = true
    · rw [if_pos c1] at he
      have hs := seen_range l (versions l key) i
      by_cases c2 : seen l (versions l key) i < 0 ∧ (nth l i).val ≠ ByteArray.empty
      · rw [if_pos c2] at he; cases he
      · rw [if_neg c2] at he
        rcases List.mem_append.1 he with he | he
        · by_cases c3 : 0 ≤ seen l (versions l key) i
          · rw [if_pos c3] at he
            have hv := seen_val c3
            obtain ⟨u, a, b, c, k, d⟩ := vers_good (inth_mem (l := versions l key) (q := (seen l (versions l key) i).toNat) (by omega))
            rw [a, Int.toNat_natCast] at he hv
            obtain ⟨_, rfl⟩ := mem_putE he
            exact .inr (.inl ⟨rfl, by simpa using k, by simpa using outer_read c1.2, by simpa using hv⟩)
          · rw [if_neg c3] at he; cases he
        · by_cases c3 : seen l (versions l key) i + 1 < (versions l key).length
          · rw [if_pos c3] at he
            obtain ⟨u, a, b, c, k, d⟩ := vers_good (inth_mem (l := versions l key) (q := (seen l (versions l key) i + 1).toNat) (by omega))
            have ha := a
            rw [a, Int.toNat_natCast] at he
            obtain ⟨_, rfl⟩ := mem_putE he
            refine .inr (.inr ⟨rfl, by simpa using outer_read c1.2, by simpa using k, ?_⟩)
            simp only [Int.toNat_natCast]
            by_cases c4 : 0 ≤ seen l (versions l key) i
            · have hwr := seen_wrote hw c1.1 c4
              obtain ⟨q, hq⟩ : ∃ q : Nat, seen l (versions l key) i = q := ⟨(seen l (versions l key) i).toNat, by omega⟩
              rw [hq, Int.toNat_natCast] at hwr
              rw [hq] at ha c3
              have ht : ((q : Int) + 1).toNat = q + 1 := by omega
              rw [ht] at ha
              have hn := vers_next (l := l) (key := key) (q := q) (by omega)
              obtain ⟨u0, a0, b0, _, k0, d0⟩ := vers_good (inth_mem (l := versions l key) (q := q) (by omega))
              rw [ha, a0, Int.toNat_natCast, Int.toNat_natCast] at hn
              refine .inr ?_
              rw [hwr, a0, Int.toNat_natCast]
              exact ⟨by omega, fun e => by rw [e] at hn; omega, d0, hn⟩
            · refine .inl ?_
              rcases Classical.em ((nth l i).val = ByteArray.empty) with z | z
              · exact z
              · exact absurd ⟨by omega, z⟩ c2
          · rw [if_neg c3] at he; cases he
    · rw [if_neg c1] at he; cases he

/-! ### ways of edges; of such that are no GOver -/
def ofN (l : List Ev) (key : ByteArray) : List Edge := (ofE l key).filter fun e => decide (e.kind ≠ 3)
abbrev WayN (l : List Ev) (key : ByteArray) (a b : Int) : Prop := ∃ n, Rg.Walk Edge.from_ Edge.to_ (ofN l key) a n b
theorem WayN.refl (l : List Ev) (key : ByteArray) (a : Int) : WayN l key a a := ⟨0, [], rfl, fun _ h => (by cases h), rfl⟩
theorem WayN.trans {l : List Ev} {key : ByteArray} {a b c : Int} (h : WayN l key a b) (k : WayN l key b c) : WayN l key a c := by
  obtain ⟨n, h⟩ := h
  obtain ⟨m, k⟩ := k
  exact ⟨n + m, Rg.Walk.trans _ _ h k⟩
theorem WayN.put {l : List Ev} {key : ByteArray} {kind : Int} {i k : Nat} (hk : kind ≠ 3) (h : ∀ e ∈ putE l kind i k, e ∈ ofE l key) : WayN l key (nth l i).txn (nth l k).txn := by
  by_cases he : (nth l i).txn = (nth l k).txn
  · rw [he]; exact WayN.refl _ _ _
  · have hm : (⟨kind, (nth l i).txn, (nth l k).txn, i, k⟩ : Edge) ∈ ofN l key := List.mem_filter.2 ⟨h _ (by unfold putE; rw [if_neg he]; simp), by simpa using hk⟩
    exact ⟨1, Rg.Walk.one Edge.from_ Edge.to_ hm⟩
/-- A way that begins with a GOver, or with none. -/
def WayO (l : List Ev) (key : ByteArray) (a b : Int) : Prop := ∃ c, (a = c ∨ ∃ e ∈ ofE l key, e.kind = 3 ∧ e.from_ = a ∧ e.to_ = c) ∧ WayN l key c b
theorem WayO.of {l : List Ev} {key : ByteArray} {a b : Int} (h : WayN l key a b) : WayO l key a b := ⟨a, .inl rfl, h⟩
theorem WayO.put {l : List Ev} {key : ByteArray} {i k : Nat} {b : Int} (h : ∀ e ∈ putE l 3 i k, e ∈ ofE l key) (hw : WayN l key (nth l k).txn b) : WayO l key (nth l i).txn b := by
  refine ⟨(nth l k).txn, ?_, hw⟩
  by_cases he : (nth l i).txn = (nth l k).txn
  · exact .inl he
  · exact .inr ⟨⟨3, (nth l i).txn, (nth l k).txn, i, k⟩, h _ (by unfold putE; rw [if_neg he]; simp), rfl, rfl, rfl⟩
theorem ver_way {l : List Ev} {key : ByteArray} : ∀ d q, q + d < (versions l key).length → WayN l key (nth l (inth (versions l key) q).toNat).txn (nth l (inth (versions l key) (q + d)).toNat).txn
  | 0, q, _ => WayN.refl _ _ _
  | d + 1, q, h => by
    refine WayN.trans (b := (nth l (inth (versions l key) (q + 1)).toNat).txn) ?_ ?_
    · refine WayN.put (kind := 1) (by decide) fun e he => ?_
      unfold ofE
      exact List.mem_append.2 (.inl (List.mem_flatMap.2 ⟨q, List.mem_range.2 (by omega), he⟩))
    · have := ver_way (l := l) (key := key) d (q + 1) (by omega)
      rw [show q + 1 + d = q + (d + 1) by omega] at this
      exact this
/-- Who is committed and wrote a key has a version of it. -/
theorem Wf.has_version {l : List Ev} (hw : Wf l) {u : Nat} (hu : u < l.length) (hk : (nth l u).kind = 3) (hc : comOf l (nth l u).txn = true) :
    ∃ q, q < (versions l (nth l u).key).length ∧ inth (versions l (nth l u).key) q = lastOf l (nth l u).txn (nth l u).key (endOf l (nth l u).txn) ∧ (nth l (inth (versions l (nth l u).key) q).toNat).txn = (nth l u).txn := by
  obtain ⟨f, e, hf, he, hfu, hue, hel, _, h4, ht, _⟩ := hw.shape hu
  have hlt : u < e := by
    rcases Nat.lt_or_ge u e with z | z
    · exact z
    · have := h4.2 (by omega)
      omega
  have hkind : (nth l e).kind = 4 := by
    unfold comOf at hc
    rw [he] at hc
    simpa using hc
  rcases last_nth (wroteBy (nth l u).txn (nth l u).key) l e with ⟨_, h2⟩ | ⟨x, hx, hxe, g, g2, _⟩
  · have := h2 u hu hlt
    simp [wroteBy, hk] at this
  · have hl : lastOf l (nth l u).txn (nth l u).key (e : Int) = x := by unfold lastOf; simpa using g
    have hv : verAt l (nth l u).key e = some (x : Int) := by
      unfold verAt
      rw [ht, if_pos ⟨hkind, he, by rw [hl]; omega⟩, hl]
    have hm : (x : Int) ∈ versions l (nth l u).key := List.mem_filterMap.2 ⟨e, List.mem_range.2 hel, hv⟩
    obtain ⟨q, hq, hqe⟩ := List.getElem_of_mem hm
    have hi : inth (versions l (nth l u).key) q = x := by rw [inth_get hq, hqe]
    simp only [wroteBy, Bool.and_eq_true, beq_iff_eq, decide_eq_true_eq] at g2
    exact ⟨q, hq, by rw [hi, he, hl], by rw [hi, Int.toNat_natCast]; exact g2.2.1⟩
theorem vers_lt {l : List Ev} {key : ByteArray} {q r : Nat} (hq : q < (versions l key).length) (hr : r < (versions l key).length) (h : endOf l (nth l (inth (versions l key) q).toNat).txn < endOf l (nth l (inth (versions l key) r).toNat).txn) : q < r := by
  rcases Nat.lt_trichotomy q r with z | z | z
  · exact z
  · subst z; omega
  · have := List.pairwise_iff_getElem.1 (vers_rise l key) r q hr hq z
    rw [inth_get hq, inth_get hr] at h
    omega
theorem Wf.write_way {l : List Ev} (hw : Wf l) {u v : Nat} (hu : u < l.length) (hv : v < l.length) (hk : (nth l u).kind = 3) (hk' : (nth l v).kind = 3) (hkey : (nth l v).key = (nth l u).key) (hc : comOf l (nth l u).txn = true) (hc' : comOf l (nth l v).txn = true)
    (h : endOf l (nth l u).txn < endOf l (nth l v).txn) : WayN l (nth l u).key (nth l u).txn (nth l v).txn := by
  obtain ⟨q, hq, _, hqt⟩ := hw.has_version hu hk hc
  obtain ⟨r, hr, _, hrt⟩ := hw.has_version hv hk' hc'
  rw [hkey] at hr hrt
  have hlt := vers_lt hq hr (by rw [hqt, hrt]; exact h)
  obtain ⟨d, rfl⟩ : ∃ d, r = q + d := ⟨r - q, by omega⟩
  have := ver_way (l := l) (key := (nth l u).key) d q hr
  rw [hqt, hrt] at this
  exact this
/-- What is known of a committed read that isn't tainted. -/
theorem Wf.clean {l : List Ev} (hw : Wf l) {i : Nat} (hi : i < l.length) (hk : (nth l i).kind = 2) (hc : comOf l (nth l i).txn = true) (hb : (badAt l i).kind = 0) :
    (∃ u : Nat, u < i ∧ (nth l u).kind = 3 ∧ (nth l u).txn = (nth l i).txn ∧ (nth l u).key = (nth l i).key ∧ (nth l u).val = (nth l i).val) ∨
    (outer l i = true ∧ ((nth l i).val = ByteArray.empty ∨ Go.Proofs.YtebjiimlcnmfpaaGreat.writer l (nth l i).key (nth l i).val < 0 ∨ ∃ u : Nat, Go.Proofs.YtebjiimlcnmfpaaGreat.writer l (nth l i).key (nth l i).val = u ∧ u < l.length ∧ (nth l u).kind = 3 ∧ (nth l u).key = (nth l i).key ∧ (nth l u).val = (nth l i).val ∧ (nth l u).txn ≠ (nth l i).txn ∧ comOf l (nth l u).txn = true ∧
      lastOf l (nth l u).txn (nth l i).key (endOf l (nth l u).txn) = u)) := by
  obtain ⟨f, e, hf, he, hfu, hue, hel, _, h4, ht, _⟩ := hw.shape hi
  have hlt : i < e := by
    rcases Nat.lt_or_ge i e with z | z
    · exact z
    · have := h4.2 (by omega)
      omega
  have hcn : counts l i = true := by
    unfold counts
    simp [hi, hk, hc, he, hlt]
  have hb2 := (bad_zero l i).1 hb
  unfold badAt at hb2
  rw [if_neg (by rw [hcn]; simp)] at hb2
  simp only [Int.toNat_natCast] at hb2
  rcases last_nth (wroteBy (nth l i).txn (nth l i).key) l i with ⟨g, _⟩ | ⟨u, hu, hui, g, g2, _⟩
  · have g' : lastOf l (nth l i).txn (nth l i).key i = -1 := by unfold lastOf; simpa using g
    rw [g', if_neg (by omega)] at hb2
    refine .inr ⟨by unfold outer; rw [hcn]; simp [g'], ?_⟩
    by_cases c1 : (nth l i).val = ByteArray.empty
    · exact .inl c1
    · rw [if_neg c1] at hb2
      by_cases c2 : Go.Proofs.YtebjiimlcnmfpaaGreat.writer l (nth l i).key (nth l i).val < 0
      · exact .inr (.inl c2)
      · rw [if_neg c2] at hb2
        rcases idx_nth (writes (nth l i).key (nth l i).val) l with ⟨e', _⟩ | ⟨u, hul, e', e2, _⟩
        · exfalso
          rw [Go.Proofs.YtebjiimlcnmfpaaGreat.writer, e'] at c2; omega
        · have ew : Go.Proofs.YtebjiimlcnmfpaaGreat.writer l (nth l i).key (nth l i).val = u := e'
          simp only [writes, Bool.and_eq_true, beq_iff_eq, decide_eq_true_eq] at e2
          rw [ew] at hb2
          unfold badW at hb2
          simp only [Int.toNat_natCast] at hb2
          by_cases c3 : (nth l u).txn = (nth l i).txn
          · rw [if_pos c3] at hb2; cases hb2
          · rw [if_neg c3] at hb2
            by_cases c4 : comOf l (nth l u).txn = false
            · rw [if_pos c4] at hb2; cases hb2
            · rw [if_neg c4] at hb2
              by_cases c5 : lastOf l (nth l u).txn (nth l i).key (endOf l (nth l u).txn) = u
              · exact .inr (.inr ⟨u, ew, hul, e2.1, e2.2.1, e2.2.2, c3, by simpa using c4, c5⟩)
              · rw [if_neg c5] at hb2; cases hb2
  · have g' : lastOf l (nth l i).txn (nth l i).key i = u := by unfold lastOf; simpa using g
    rw [g', if_pos (by omega)] at hb2
    simp only [wroteBy, Bool.and_eq_true, beq_iff_eq, decide_eq_true_eq] at g2
    unfold ownBad at hb2
    simp only [Int.toNat_natCast] at hb2
    by_cases c1 : (nth l i).val = (nth l u).val
    · exact .inl ⟨u, hui, g2.1, g2.2.1, g2.2.2, c1.symm⟩
    · rw [if_neg c1] at hb2; cases hb2
theorem Wf.val_ne {l : List Ev} (hw : Wf l) {u : Nat} (hu : u < l.length) (hk : (nth l u).kind = 3) : (nth l u).val ≠ ByteArray.empty := fun z => by
  have hm := hw.may hu
  unfold MayP at hm
  simp [hk, z] at hm
/-- The version that a read sees. -/
theorem Wf.seen_at {l : List Ev} (hw : Wf l) {key : ByteArray} {i u q : Nat} (hq : q < (versions l key).length) (hu : inth (versions l key) q = u) (hv : (nth l u).val = (nth l i).val) : seen l (versions l key) i = q := by
  obtain ⟨u', a, b, c, k, _⟩ := vers_good (inth_mem (l := versions l key) (q := q) hq)
  obtain rfl : u' = u := by omega
  have h0 : 0 ≤ seen l (versions l key) i := by
    unfold seen
    rcases idx_spec (fun k : Int => decide ((nth l k.toNat).val = (nth l i).val)) (versions l key) 0 with ⟨_, h⟩ | ⟨k, hk, e, _⟩
    · have := h _ (inth_mem hq)
      rw [hu, Int.toNat_natCast, hv] at this
      simp at this
    · rw [show idx (fun k : Int => decide ((nth l k.toNat).val = (nth l i).val)) (versions l key) 0 = ((0 + k : Nat) : Int) from e]; omega
  have hs := seen_range l (versions l key) i
  have hv2 := seen_val h0
  obtain ⟨s, hs'⟩ : ∃ s : Nat, seen l (versions l key) i = s := ⟨(seen l (versions l key) i).toNat, by omega⟩
  rw [hs'] at hv2 hs ⊢
  rw [Int.toNat_natCast] at hv2
  obtain ⟨x, a2, b2, c2, k2, _⟩ := vers_good (inth_mem (l := versions l key) (q := s) (by omega))
  rw [a2, Int.toNat_natCast] at hv2
  have hxu : x = u' := hw.same b2 b k2 k (by rw [hv2, hv])
  have hne : ∀ a b : Nat, a < b → ∀ hb : b < (versions l key).length, inth (versions l key) a ≠ inth (versions l key) b := fun a b hab hb he => by
    have := List.pairwise_iff_getElem.1 (vers_rise l key) a b (by omega) hb hab
    rw [← inth_get (show a < _ by omega), ← inth_get hb, he] at this
    omega
  rcases Nat.lt_trichotomy s q with z | z | z
  · exact absurd (by rw [a2, hu, hxu]) (hne s q z hq)
  · rw [z]
  · exact absurd (by rw [a2, hu, hxu]) (hne q s z (by omega))
/-- Where an edge holds there is a way. -/
theorem holds_way {l : List Ev} (hw : Wf l) (hb : ∀ i : Nat, i < l.length → (badAt l i).kind = 0) {e : Edge} (h : holdsP l e) :
    ((nth l e.i.toNat).kind = 2 ∨ (nth l e.i.toNat).kind = 3) ∧ ((e.kind ≠ 3 ∧ WayN l (nth l e.i.toNat).key e.from_ e.to_) ∨ (e.kind = 3 ∧ WayO l (nth l e.i.toNat).key e.from_ e.to_)) := by
  obtain ⟨c1, c2, hne, i0, i1, j0, j1, hkey, t1, t2, h⟩ := h
  obtain ⟨kind, fr, to_, i, j⟩ := e
  obtain ⟨i, rfl⟩ := Int.eq_ofNat_of_zero_le i0
  obtain ⟨j, rfl⟩ := Int.eq_ofNat_of_zero_le j0
  simp only [Int.toNat_natCast] at *
  subst t1; subst t2
  have hi : i < l.length := by omega
  have hj : j < l.length := by omega
  rcases h with ⟨k0, k1, k2, hlt⟩ | ⟨k0, k1, k2, hv⟩ | ⟨k0, k1, k2, ho⟩
  · exact ⟨.inr k1, .inl ⟨by omega, hw.write_way hi hj k1 k2 hkey.symm c1 c2 hlt⟩⟩
  · refine ⟨.inr k1, .inl ⟨by omega, ?_⟩⟩
    rcases hw.clean hj k2 c2 (hb j hj) with ⟨u, hu, ku, tu, _, vu⟩ | ⟨ho, hcl⟩
    · exfalso
      have := hw.same (show u < l.length by omega) hi ku k1 (by rw [vu, hv])
      subst this
      exact hne tu
    · have hwr := hw.writer hi k1
      rw [hkey, hv] at hwr
      rcases hcl with z | z | ⟨u, hu, _, _, _, _, _, _, hlast⟩
      · exact absurd (hv.trans z) (hw.val_ne hi k1)
      · omega
      · obtain rfl : u = i := by omega
        obtain ⟨q, hq, hqv, _⟩ := hw.has_version hi k1 c1
        rw [← hkey] at hlast
        rw [hlast] at hqv
        have hs := hw.seen_at hq hqv hv
        have hm : ∀ e ∈ putE l 2 u j, e ∈ ofE l (nth l u).key := fun e he => by
          unfold ofE
          refine List.mem_append.2 (.inr (List.mem_flatMap.2 ⟨j, List.mem_range.2 hj, ?_⟩))
          unfold readE
          rw [if_pos ⟨hkey.symm, ho⟩, if_neg (by omega), if_pos (by omega), hs, Int.toNat_natCast, hqv, Int.toNat_natCast]
          exact List.mem_append.2 (.inl he)
        exact WayN.put (by decide) hm
  · refine ⟨.inl k1, .inr ⟨k0, ?_⟩⟩
    obtain ⟨r, hr, _, hrt⟩ := hw.has_version hj k2 c2
    rw [← hkey] at hr hrt
    have hto : ∀ s, s < r + 1 → WayN l (nth l i).key (nth l (inth (versions l (nth l i).key) s).toNat).txn (nth l j).txn := fun s hs => by
      obtain ⟨d, rfl⟩ : ∃ d, r = s + d := ⟨r - s, by omega⟩
      have := ver_way (l := l) (key := (nth l i).key) d s hr
      rw [hrt] at this
      exact this
    rcases hw.clean hi k1 c1 (hb i hi) with ⟨u, hu, ku, tu, keyu, vu⟩ | ⟨hout, hcl⟩
    · have hul : u < l.length := by omega
      have hwr := hw.writer hul ku
      rw [keyu, vu] at hwr
      rcases ho with z | ⟨_, _, _, hlt⟩
      · exact absurd (vu.trans z) (hw.val_ne hul ku)
      · rw [hwr, Int.toNat_natCast] at hlt
        have := hw.write_way hul hj ku k2 (hkey.symm.trans keyu.symm) (by rw [tu]; exact c1) c2 hlt
        rw [tu, keyu] at this
        exact WayO.of this
    · rcases ho with z | ⟨hw0, hwt, hwc, hlt⟩
      · have hs : seen l (versions l (nth l i).key) i = -1 := by
          rcases idx_spec (fun k : Int => decide ((nth l k.toNat).val = (nth l i).val)) (versions l (nth l i).key) 0 with ⟨e, _⟩ | ⟨k, hk, _, h2, _⟩
          · exact e
          · exfalso
            obtain ⟨u, a, b, _, ku, _⟩ := vers_good (List.getElem_mem hk)
            rw [a, Int.toNat_natCast, z] at h2
            exact hw.val_ne b ku (of_decide_eq_true h2)
        have hm : ∀ e ∈ putE l 3 i (inth (versions l (nth l i).key) 0).toNat, e ∈ ofE l (nth l i).key := fun e he => by
          unfold ofE
          refine List.mem_append.2 (.inr (List.mem_flatMap.2 ⟨i, List.mem_range.2 hi, ?_⟩))
          unfold readE
          rw [if_pos ⟨rfl, hout⟩, hs, if_neg (by simp [z]), if_neg (by omega), if_pos (by omega), show ((-1 : Int) + 1).toNat = 0 from rfl]
          exact List.mem_append.2 (.inr he)
        exact WayO.put hm (hto 0 (by omega))
      · rcases hcl with z | z | ⟨u, hu, hul, ku, keyu, vu, tu, cu, hlast⟩
        · rcases idx_nth (writes (nth l i).key (nth l i).val) l with ⟨e', _⟩ | ⟨u, hul, e', e2, _⟩
          · rw [Go.Proofs.YtebjiimlcnmfpaaGreat.writer, e'] at hw0; omega
          · simp only [writes, Bool.and_eq_true, beq_iff_eq, decide_eq_true_eq] at e2
            exact absurd (e2.2.2.trans z) (hw.val_ne hul e2.1)
        · omega
        · rw [hu, Int.toNat_natCast] at hlt
          obtain ⟨q, hq, hqv, hqt⟩ := hw.has_version hul ku cu
          rw [keyu] at hq hqv hqt
          rw [hlast] at hqv
          have hs := hw.seen_at hq hqv vu
          have hqr := vers_lt hq hr (by rw [hqt, hrt]; exact hlt)
          have hm : ∀ e ∈ putE l 3 i (inth (versions l (nth l i).key) (q + 1)).toNat, e ∈ ofE l (nth l i).key := fun e he => by
            unfold ofE
            refine List.mem_append.2 (.inr (List.mem_flatMap.2 ⟨i, List.mem_range.2 hi, ?_⟩))
            unfold readE
            rw [if_pos ⟨rfl, hout⟩, hs, if_neg (by omega), if_pos (by omega), if_pos (by omega), show ((q : Int) + 1).toNat = q + 1 from rfl]
            exact List.mem_append.2 (.inr he)
          exact WayO.put hm (hto (q + 1) (by omega))
end
end Go.Proofs.YtebjiimlcnmfpaaGreat
