/-
  The program's edges.ahead, edges.is, edges.over, edges.Holds; the contract of edges.Holds in the words of the printed ones.
-/
import Derived.Test.YtebjiimlcnmfpaaGreatA12
import Derived.Test.YtebjiimlcnmfpaaGreatB1
import Derived.Test.YtebjiimlcnmfpaaGreatR1
import Derived.Deep.RegionHeld
section
set_option linter.unusedVariables false
set_option linter.unusedSimpArgs false
namespace Go.Proofs.YtebjiimlcnmfpaaGreat
section
open Go

def overP (l : List Ev) (i : Nat) (to_ : Int) : Prop := (nth l i).val = ByteArray.empty ∨
  (0 ≤ writer l (nth l i).key (nth l i).val ∧ (nth l (writer l (nth l i).key (nth l i).val).toNat).txn ≠ to_ ∧ comOf l (nth l (writer l (nth l i).key (nth l i).val).toNat).txn = true ∧
    endOf l (nth l (writer l (nth l i).key (nth l i).val).toNat).txn < endOf l to_)
instance (l : List Ev) (i : Nat) (t : Int) : Decidable (overP l i t) := by unfold overP; exact inferInstance
/-- Does an edge hold? -/
def holdsP (l : List Ev) (e : Edge) : Prop :=
  comOf l e.from_ = true ∧ comOf l e.to_ = true ∧ e.from_ ≠ e.to_ ∧ 0 ≤ e.i ∧ e.i < l.length ∧ 0 ≤ e.j ∧ e.j < l.length ∧
  (nth l e.i.toNat).key = (nth l e.j.toNat).key ∧ (nth l e.i.toNat).txn = e.from_ ∧ (nth l e.j.toNat).txn = e.to_ ∧
  ((e.kind = 1 ∧ (nth l e.i.toNat).kind = 3 ∧ (nth l e.j.toNat).kind = 3 ∧ endOf l e.from_ < endOf l e.to_) ∨
   (e.kind = 2 ∧ (nth l e.i.toNat).kind = 3 ∧ (nth l e.j.toNat).kind = 2 ∧ (nth l e.i.toNat).val = (nth l e.j.toNat).val) ∨
   (e.kind = 3 ∧ (nth l e.i.toNat).kind = 2 ∧ (nth l e.j.toNat).kind = 3 ∧ overP l e.i.toNat e.to_))
instance (l : List Ev) (e : Edge) : Decidable (holdsP l e) := by unfold holdsP; exact inferInstance
def holds (l : List Ev) (e : Edge) : Bool := decide (holdsP l e)

/-- A value is written in one place. -/
theorem Wf.writer {l : List Ev} (hw : Wf l) {u : Nat} (hu : u < l.length) (hk : (nth l u).kind = 3) : Go.Proofs.YtebjiimlcnmfpaaGreat.writer l (nth l u).key (nth l u).val = u := by
  rcases idx_nth (writes (nth l u).key (nth l u).val) l with ⟨_, h⟩ | ⟨k, hkl, e, h1, _⟩
  · have := h u hu
    simp [writes, hk] at this
  · simp only [writes, Bool.and_eq_true, beq_iff_eq, decide_eq_true_eq] at h1
    have : k = u := by
      rcases Nat.lt_trichotomy k u with z | z | z
      · exact absurd h1.2.2 (hw.once hu z h1.1 hk)
      · exact z
      · exact absurd h1.2.2.symm (hw.once hkl z hk h1.1)
    rw [Go.Proofs.YtebjiimlcnmfpaaGreat.writer, e, this]
theorem Wf.same {l : List Ev} (hw : Wf l) {u v : Nat} (hu : u < l.length) (hv : v < l.length) (hk : (nth l u).kind = 3) (hk' : (nth l v).kind = 3) (h : (nth l u).val = (nth l v).val) : u = v := by
  rcases Nat.lt_trichotomy u v with z | z | z
  · exact absurd h (hw.once hv z hk hk')
  · exact z
  · exact absurd h.symm (hw.once hu z hk' hk)
theorem outer_read {l : List Ev} {i : Nat} (h : outer l i = true) : (nth l i).kind = 2 := by
  unfold outer counts at h
  simp at h
  exact h.1.2.1
theorem seen_wrote {l : List Ev} (hw : Wf l) {key : ByteArray} {i : Nat} (hi : (nth l i).key = key) (h : 0 ≤ seen l (versions l key) i) : Go.Proofs.YtebjiimlcnmfpaaGreat.writer l (nth l i).key (nth l i).val = inth (versions l key) (seen l (versions l key) i).toNat := by
  have hs := seen_range l (versions l key) i
  have hv := seen_val h
  obtain ⟨u, a, b, c, k, _⟩ := vers_good (inth_mem (l := versions l key) (q := (seen l (versions l key) i).toNat) (by omega))
  rw [a, Int.toNat_natCast] at hv
  have := hw.writer b k
  rw [a, hi, ← c, ← hv]
  exact this

theorem of_holds {l : List Ev} (hw : Wf l) {key : ByteArray} {e : Edge} (h : e ∈ ofE l key) : holdsP l e := by
  have hg := of_good h
  obtain ⟨gi, gj, e1, e2, l1, l2, f1, f2, hne, hkey, hc1, hc2, _⟩ := hg
  refine ⟨by rw [f1]; exact hc1, by rw [f2]; exact hc2, by rw [f1, f2]; exact hne, by omega, by omega, by omega, by omega, by rw [e1, e2]; simpa using hkey, by rw [e1, f1]; simp, by rw [e2, f2]; simp, ?_⟩
  unfold ofE at h
  rcases List.mem_append.1 h with h | h
  · obtain ⟨q, hq, he⟩ := List.mem_flatMap.1 h
    have hq' := List.mem_range.1 hq
    have hn := vers_next (l := l) (key := key) (q := q) (by omega)
    obtain ⟨u0, a0, b0, c0, k0, d0⟩ := vers_good (inth_mem (l := versions l key) (q := q) (by omega))
    obtain ⟨u1, a1, b1, c1, k1, d1⟩ := vers_good (inth_mem (l := versions l key) (q := q + 1) (by omega))
    unfold verE at he
    rw [a0, a1, Int.toNat_natCast, Int.toNat_natCast] at he hn
    obtain ⟨_, rfl⟩ := mem_putE he
    exact .inl ⟨rfl, by simpa using k0, by simpa using k1, hn⟩
  · obtain ⟨i, hi, he⟩ := List.mem_flatMap.1 h
    have hi' := List.mem_range.1 hi
    unfold readE at he
    by_cases c1 : (nth l i).key = key ∧ outer l i = true
    · rw [if_pos c1] at he
      have hs := seen_range l (versions l key) i
      by_cases c2 : seen l (versions l key) i < 0 ∧ (nth l i).val ≠ ByteArray.empty
      · rw [if_pos c2] at he; cases he
      · rw [if_neg c2] at he
        rcases List.mem_append.1 he with he | he
        · by_cases c3 : 0 ≤ seen l (versions l key) i
          · rw [if_pos c3] at he
            have hv := seen_val c3
            obtain ⟨u, a, b, c, k, d⟩ := vers_good (inth_mem (l := versions l key) (q := (seen l (versions l key) i).toNat) (by omega))
            rw [a, Int.toNat_natCast] at he hv
            obtain ⟨_, rfl⟩ := mem_putE he
            exact .inr (.inl ⟨rfl, by simpa using k, by simpa using outer_read c1.2, by simpa using hv⟩)
          · rw [if_neg c3] at he; cases he
        · by_cases c3 : seen l (versions l key) i + 1 < (versions l key).length
          · rw [if_pos c3] at he
            obtain ⟨u, a, b, c, k, d⟩ := vers_good (inth_mem (l := versions l key) (q := (seen l (versions l key) i + 1).toNat) (by omega))
            have ha := a
            rw [a, Int.toNat_natCast] at he
            obtain ⟨_, rfl⟩ := mem_putE he
            refine .inr (.inr ⟨rfl, by simpa using outer_read c1.2, by simpa using k, ?_⟩)
            simp only [Int.toNat_natCast]
            by_cases c4 : 0 ≤ seen l (versions l key) i
            · have hwr := seen_wrote hw c1.1 c4
              obtain ⟨q, hq⟩ : ∃ q : Nat, seen l (versions l key) i = q := ⟨(seen l (versions l key) i).toNat, by omega⟩
              rw [hq, Int.toNat_natCast] at hwr
              rw [hq] at ha c3
              have ht : ((q : Int) + 1).toNat = q + 1 := by omega
              rw [ht] at ha
              have hn := vers_next (l := l) (key := key) (q := q) (by omega)
              obtain ⟨u0, a0, b0, _, k0, d0⟩ := vers_good (inth_mem (l := versions l key) (q := q) (by omega))
              rw [ha, a0, Int.toNat_natCast, Int.toNat_natCast] at hn
              refine .inr ?_
              rw [hwr, a0, Int.toNat_natCast]
              exact ⟨by omega, fun e => by rw [e] at hn; omega, d0, hn⟩
            · refine .inl ?_
              rcases Classical.em ((nth l i).val = ByteArray.empty) with z | z
              · exact z
              · exact absurd ⟨by omega, z⟩ c2
          · rw [if_neg c3] at he; cases he
    · rw [if_neg c1] at he; cases he

/-! ### ways of edges; of such that are no GOver -/
def ofN (l : List Ev) (key : ByteArray) : List Edge := (ofE l key).filter fun e => decide (e.kind ≠ 3)
abbrev WayN (l : List Ev) (key : ByteArray) (a b : Int) : Prop := ∃ n, Rg.Walk Edge.from_ Edge.to_ (ofN l key) a n b
theorem WayN.refl (l : List Ev) (key : ByteArray) (a : Int) : WayN l key a a := ⟨0, [], rfl, fun _ h => (by cases h), rfl⟩
theorem WayN.trans {l : List Ev} {key : ByteArray} {a b c : Int} (h : WayN l key a b) (k : WayN l key b c) : WayN l key a c := by
  obtain ⟨n, h⟩ := h
  obtain ⟨m, k⟩ := k
  exact ⟨n + m, Rg.Walk.trans _ _ h k⟩
theorem WayN.put {l : List Ev} {key : ByteArray} {kind : Int} {i k : Nat} (hk : kind ≠ 3) (h : ∀ e ∈ putE l kind i k, e ∈ ofE l key) : WayN l key (nth l i).txn (nth l k).txn := by
  by_cases he : (nth l i).txn = (nth l k).txn
  · rw [he]; exact WayN.refl _ _ _
  · have hm : (⟨kind, (nth l i).txn, (nth l k).txn, i, k⟩ : Edge) ∈ ofN l key := List.mem_filter.2 ⟨h _ (by unfold putE; rw [if_neg he]; simp), by simpa using hk⟩
    exact ⟨1, Rg.Walk.one Edge.from_ Edge.to_ hm⟩
/-- A way that begins with a GOver, or with none. -/
def WayO (l : List Ev) (key : ByteArray) (a b : Int) : Prop := ∃ c, (a = c ∨ ∃ e ∈ ofE l key, e.kind = 3 ∧ e.from_ = a ∧ e.to_ = c) ∧ WayN l key c b
theorem WayO.of {l : List Ev} {key : ByteArray} {a b : Int} (h : WayN l key a b) : WayO l key a b := ⟨a, .inl rfl, h⟩
theorem WayO.put {l : List Ev} {key : ByteArray} {i k : Nat} {b : Int} (h : ∀ e ∈ putE l 3 i k, e ∈ ofE l key) (hw : WayN l key (nth l k).txn b) : WayO l key (nth l i).txn b := by
  refine ⟨(nth l k).txn, ?_, hw⟩
  by_cases he : (nth l i).txn = (nth l k).txn
  · exact .inl he
  · exact .inr ⟨⟨3, (nth l i).txn, (nth l k).txn, i, k⟩, h _ (by unfold putE; rw [if_neg he]; simp), rfl, rfl, rfl⟩
end
end Go.Proofs.YtebjiimlcnmfpaaGreat
end
section
/-! The program's edges.ahead, edges.is, edges.over, edges.Holds. -/
set_option linter.unusedVariables false
set_option linter.unusedSimpArgs false
namespace Go.Proofs.YtebjiimlcnmfpaaGreat
section
section
open Go Go.RowKit Go.Proofs Go.Shelf
attribute [local go_sem] Ext.alloc Ext.alloc2 Ext.alloc3 Ext.alloc4 Ext.drewN_alloc Ext.drewN_alloc2 Ext.drew_alloc Ext.drew Ext.drewN toList_beq

def tillOf (l : List Ev) (t : Int) : Int := (findL l t).1.till
theorem find_com (l : List Ev) (t : Int) : (findL l t).1.com = comOf l t := by
  by_cases h : firstOf l t < 0
  · have he : endOf l t < 0 := by
      rcases Int.lt_or_le (endOf l t) 0 with h2 | h2
      · exact h2
      · obtain ⟨e, _, he, ht, _⟩ := endOf_place h2
        exact absurd ht (firstOf_neg h e he)
    unfold findL comOf
    rw [if_pos h, decide_eq_false (by omega)]
    rfl
  · by_cases he : endOf l t < 0
    · unfold findL comOf
      rw [if_neg h, if_pos he, decide_eq_false (by omega)]
      rfl
    · unfold findL comOf
      rw [if_neg h, if_neg he, decide_eq_true (by omega)]
      rfl
set_option maxRecDepth 100000 in
set_option maxHeartbeats 2000000 in
theorem e_ahead (w : World) (A : Option Addr) (n cap : Nat) (l : List Ev) (a b : Int) (hE : Evs w A n l) :
    Calls Tryz.prog 55 #[.slice A n cap, .int .i64 a, .int .i64 b] w fun e w' => e = .returned (.tuple #[.bool (comOf l a && comOf l b), .bool (decide (tillOf l a < tillOf l b))]) ∧ Ext w w' := by
  have hX := Ext.refl w
  have HE := hid hE
  clear hE
  have FA := hid (fun W (h : Ext w W) => h_find W A n cap l a (HE.out.ext h))
  have FB := hid (fun W (h : Ext w W) => h_find W A n cap l b (HE.out.ext h))
  obtain ⟨xa, hxa⟩ : ∃ xa, findL l a = xa := ⟨_, rfl⟩
  obtain ⟨xb, hxb⟩ : ∃ xb, findL l b = xb := ⟨_, rfl⟩
  have ea : comOf l a = xa.1.com := by rw [← find_com, hxa]
  have eb : comOf l b = xb.1.com := by rw [← find_com, hxb]
  have ta : tillOf l a = xa.1.till := by unfold tillOf; rw [hxa]
  have tb : tillOf l b = xb.1.till := by unfold tillOf; rw [hxb]
  rw [ea, eb, ta, tb]
  rw [hxa] at FA
  rw [hxb] at FB
  clear ea eb ta tb hxa hxb
  obtain ⟨⟨a1, a2, a3, ca⟩, fa⟩ := xa
  obtain ⟨⟨b1, b2, b3, cb⟩, fb⟩ := xb
  dsimp only at FA FB ⊢
  go_enter Tryz.func55, Tryz.ntmps55
  go_wp2_with first
    | (go_at_call 98; (with_reducible refine (FA.out _ hX).mono ?_); rintro e w1 ⟨rfl, hx1⟩; have hX1 := (hX.trans hx1).alloc (.cells #[.int .i64 a1, .int .i64 a2, .int .i64 a3, .bool ca] 52))
    | (go_at_call 98; (with_reducible refine (FB.out _ hX1).mono ?_); rintro e w2 ⟨rfl, hx2⟩; have hX2 := (hX1.trans hx2).alloc (.cells #[.int .i64 b1, .int .i64 b2, .int .i64 b3, .bool cb] 52))
  have pa := ((Blk.new w1 52 #[.int .i64 a1, .int .i64 a2, .int .i64 a3, .bool ca]).ext hx2).alloc (.cells #[.int .i64 b1, .int .i64 b2, .int .i64 b3, .bool cb] 52)
  have pb := Blk.new w2 52 #[.int .i64 b1, .int .i64 b2, .int .i64 b3, .bool cb]
  obtain ⟨-, -, pa2, pa3⟩ := pa.cells4
  obtain ⟨-, -, pb2, pb3⟩ := pb.cells4
  clear pa pb
  cases ca
  all_goals
    go_quiet (fail)
    go_wp2
    go_ret2
    exact ⟨by simp, (by repeat (first | assumption | apply Ext.alloc | apply Ext.drewN | apply Ext.drew | (refine Ext.setCell (by simp <;> omega) ?_ _)))⟩

set_option maxRecDepth 100000 in
set_option maxHeartbeats 2000000 in
theorem e_is (w : World) (A : Option Addr) (n cap : Nat) (l : List Ev) (i kind txn : Int) (hE : Evs w A n l) :
    Calls Tryz.prog 56 #[.slice A n cap, .int .i64 i, .int .i64 kind, .int .i64 txn] w fun e w' => e = .returned (.bool (decide ((0 ≤ i ∧ i < n) ∧ (nth l i.toNat).kind = kind ∧ (nth l i.toNat).txn = txn))) ∧ Ext w w' := by
  have hX := Ext.refl w
  have HE := hid hE
  clear hE
  obtain ⟨R, hR⟩ : ∃ R, decide ((0 ≤ i ∧ i < n) ∧ (nth l i.toNat).kind = kind ∧ (nth l i.toNat).txn = txn) = R := ⟨_, rfl⟩
  have HR := hid hR
  rw [hR]
  clear hR
  go_enter Tryz.func56, Tryz.ntmps56
  by_cases h0 : 0 ≤ i
  · by_cases h1 : i < (n : Int)
    · obtain ⟨m, rfl⟩ : ∃ m : Nat, i = m := ⟨i.toNat, by omega⟩
      obtain ⟨b, o, rfl, q0, q1, q2, q3⟩ := HE.out.opn (by omega)
      have c0 := q0 w m hX (by omega)
      have c1 := q1 w m hX (by omega)
      clear q0 q1 q2 q3
      by_cases hk : (nth l m).kind = kind
      · have hb : ((nth l m).kind == kind) = true := by simp [hk]
        go_wp2
        go_ret
        exact ⟨ret_bool (by rw [← HR.out]; simp only [Int.toNat_natCast, hk, h0, h1, true_and, and_self]; rfl), (by repeat (first | assumption | apply Ext.alloc | apply Ext.drewN | apply Ext.drew | (refine Ext.setCell (by simp <;> omega) ?_ _)))⟩
      · have hb : ((nth l m).kind == kind) = false := by simp [hk]
        go_wp2
        go_ret
        exact ⟨ret_bool (by rw [← HR.out]; simp [hk]), (by repeat (first | assumption | apply Ext.alloc | apply Ext.drewN | apply Ext.drew | (refine Ext.setCell (by simp <;> omega) ?_ _)))⟩
    · have hb : decide (i < (n : Int)) = false := by simp [h1]
      have hR2 : R = false := by rw [← HR.out]; simp [h1]
      go_wp2
      go_ret
      subst hR2
      exact ⟨rfl, (by repeat (first | assumption | apply Ext.alloc | apply Ext.drewN | apply Ext.drew | (refine Ext.setCell (by simp <;> omega) ?_ _)))⟩
  · have hb : decide (0 ≤ i) = false := by simp [h0]
    have hR2 : R = false := by rw [← HR.out]; simp [h0]
    go_wp2
    go_ret
    subst hR2
    exact ⟨rfl, (by repeat (first | assumption | apply Ext.alloc | apply Ext.drewN | apply Ext.drew | (refine Ext.setCell (by simp <;> omega) ?_ _)))⟩

set_option maxRecDepth 100000 in
set_option maxHeartbeats 2000000 in
theorem e_over (w : World) (A : Option Addr) (n cap : Nat) (l : List Ev) (i : Nat) (to_ : Int) (hE : Evs w A n l) (hi : i < n) (hto : comOf l to_ = true) :
    Calls Tryz.prog 57 #[.slice A n cap, .agg #[.int .i64 (nth l i).kind, .int .i64 (nth l i).txn, .string (nth l i).key, .string (nth l i).val], .int .i64 to_] w fun e w' => e = .returned (.bool (decide (overP l i to_))) ∧ Ext w w' := by
  have hX := Ext.refl w
  have HE := hid hE
  have hl := hid hE.len
  clear hE
  obtain ⟨R, hR⟩ : ∃ R, decide (overP l i to_) = R := ⟨_, rfl⟩
  have HR := hid hR
  rw [hR]
  clear hR
  obtain ⟨x, hx⟩ : ∃ x, nth l i = x := ⟨_, rfl⟩
  have HX := hid hx
  rw [hx]
  obtain ⟨xk, xt, key, val⟩ := x
  have hov : overP l i to_ ↔ val = ByteArray.empty ∨ (0 ≤ writer l key val ∧ (nth l (writer l key val).toNat).txn ≠ to_ ∧ comOf l (nth l (writer l key val).toNat).txn = true ∧ endOf l (nth l (writer l key val).toNat).txn < endOf l to_) := by unfold overP; rw [hx]
  have HOV := hid hov
  clear hov hx
  dsimp only
  go_enter Tryz.func57, Tryz.ntmps57
  by_cases hv : val = ByteArray.empty
  · have hR2 : R = true := by rw [← HR.out]; exact decide_eq_true (HOV.out.2 (.inl hv))
    subst hv
    subst hR2
    go_wp2
    go_ret
    exact ⟨rfl, (by repeat (first | assumption | apply Ext.alloc | apply Ext.drewN | apply Ext.drew | (refine Ext.setCell (by simp <;> omega) ?_ _)))⟩
  · have hv2 := ne_isEmpty hv
    have hXB := hX.alloc (.cells #[.int .i64 xk, .int .i64 xt, .string key, .string val] 50)
    have HW := hid (h_writer _ A n cap l key val (HE.out.ext hXB))
    obtain ⟨j, hj⟩ : ∃ j, writer l key val = j := ⟨_, rfl⟩
    rw [hj] at HW HOV
    have hjr : -1 ≤ j ∧ j < l.length := by rw [← hj]; exact idx_lt _ _
    have hjr1 := hjr.1
    have hjr2 : j < (n : Int) := by have := hjr.2; have := hl.out; omega
    clear hj hjr
    by_cases hj0 : j < 0
    · have hR2 : R = false := by rw [← HR.out]; exact decide_eq_false (fun h => (HOV.out.1 h).elim hv (fun h => by omega))
      subst hR2
      go_wp2_with (go_at_call 99; (with_reducible refine HW.out.mono ?_); rintro e w1 ⟨rfl, hx1⟩; have hX1 := hXB.trans hx1)
      go_ret
      exact ⟨rfl, hX1⟩
    · obtain ⟨u, rfl⟩ : ∃ u : Nat, j = u := ⟨j.toNat, by omega⟩
      obtain ⟨b, o, rfl, q0, q1, q2, q3⟩ := HE.out.opn (by omega)
      clear q0 q2 q3
      rw [Int.toNat_natCast] at HOV
      by_cases ht : (nth l u).txn = to_
      · have hR2 : R = false := by rw [← HR.out]; exact decide_eq_false (fun h => (HOV.out.1 h).elim hv (fun h => h.2.1 ht))
        subst hR2
        go_wp2_with (go_at_call 99; (with_reducible refine HW.out.mono ?_); rintro e w1 ⟨rfl, hx1⟩; have hX1 := hXB.trans hx1; have c1 := q1 w1 u hX1 (by omega); rw [ht] at c1)
        go_ret
        exact ⟨rfl, hX1⟩
      · have HA := hid (fun W (h : Ext w W) => e_ahead W (some ⟨b, o, none⟩) n cap l (nth l u).txn to_ (HE.out.ext h))
        rw [hto, Bool.and_true] at HA
        have hbt : ((nth l u).txn == to_) = false := by simp [ht]
        obtain ⟨cu, hcu⟩ : ∃ cu, comOf l (nth l u).txn = cu := ⟨_, rfl⟩
        obtain ⟨lt, hlt⟩ : ∃ lt, decide (tillOf l (nth l u).txn < tillOf l to_) = lt := ⟨_, rfl⟩
        have hRR : R = (cu && lt) := by
          rw [← HR.out, ← hcu, ← hlt]
          by_cases hc : comOf l (nth l u).txn = true
          · have e1 : tillOf l (nth l u).txn = endOf l (nth l u).txn := com_till hc
            have e2 : tillOf l to_ = endOf l to_ := com_till hto
            rw [hc, Bool.true_and, e1, e2]
            exact decide_eq_decide.2 ⟨fun h => (HOV.out.1 h).elim (fun h => absurd h hv) (fun h => h.2.2.2), fun h => HOV.out.2 (.inr ⟨by omega, ht, hc, h⟩)⟩
          · have e : comOf l (nth l u).txn = false := by simpa using hc
            rw [e, Bool.false_and]
            exact decide_eq_false (fun h => (HOV.out.1 h).elim hv (fun h => hc h.2.2.1))
        rw [hcu, hlt] at HA
        subst hRR
        clear HR HOV hcu hlt HX hto
        cases cu
        all_goals
          go_wp2_with first
            | (go_at_call 99; (with_reducible refine HW.out.mono ?_); rintro e w1 ⟨rfl, hx1⟩; have hX1 := hXB.trans hx1; have c1 := q1 w1 u hX1 (by omega))
            | (go_at_call 55; (with_reducible refine (HA.out _ hX1).mono ?_); rintro e w2 ⟨rfl, hx2⟩; have hX2 := hX1.trans hx2)
          go_ret
          exact ⟨rfl, hX2⟩

theorem Blk.cells5 {w : World} {g : Nat} {t : TypeId} {a b c d e : Value} (h : Blk w g t #[a, b, c, d, e]) : w.cell? ⟨g, 0, none⟩ = some a ∧ w.cell? ⟨g, 1, none⟩ = some b ∧ w.cell? ⟨g, 2, none⟩ = some c ∧ w.cell? ⟨g, 3, none⟩ = some d ∧ w.cell? ⟨g, 4, none⟩ = some e := ⟨h.cell 0, h.cell 1, h.cell 2, h.cell 3, h.cell 4⟩
/-- What holding is, where the outer conditions are met. -/
theorem holdsP_main {l : List Ev} {kind from_ to_ : Int} {i j : Nat} (h1 : comOf l from_ = true) (h2 : comOf l to_ = true) (h3 : from_ ≠ to_) (h4 : i < l.length) (h5 : j < l.length) (h6 : (nth l i).key = (nth l j).key) :
    holdsP l ⟨kind, from_, to_, i, j⟩ ↔ (nth l i).txn = from_ ∧ (nth l j).txn = to_ ∧
      ((kind = 1 ∧ (nth l i).kind = 3 ∧ (nth l j).kind = 3 ∧ tillOf l from_ < tillOf l to_) ∨
       (kind = 2 ∧ (nth l i).kind = 3 ∧ (nth l j).kind = 2 ∧ (nth l i).val = (nth l j).val) ∨
       (kind = 3 ∧ (nth l i).kind = 2 ∧ (nth l j).kind = 3 ∧ overP l i to_)) := by
  have e1 : tillOf l from_ = endOf l from_ := com_till h1
  have e2 : tillOf l to_ = endOf l to_ := com_till h2
  rw [e1, e2]
  unfold holdsP
  simp only [Int.toNat_natCast]
  constructor
  · rintro ⟨_, _, _, _, _, _, _, _, a, b, c⟩
    exact ⟨a, b, c⟩
  · rintro ⟨a, b, c⟩
    exact ⟨h1, h2, h3, by omega, by omega, by omega, by omega, h6, a, b, c⟩
/-- Is at a place such an event? -/
def isP (l : List Ev) (n : Nat) (i : Nat) (k t : Int) : Bool := decide ((0 ≤ (i : Int) ∧ (i : Int) < n) ∧ (nth l i).kind = k ∧ (nth l i).txn = t)
theorem isP_iff {l : List Ev} {n i : Nat} {k t : Int} (hi : i < n) : isP l n i k t = true ↔ (nth l i).kind = k ∧ (nth l i).txn = t := by
  unfold isP
  rw [decide_eq_true_iff]
  exact ⟨fun h => h.2, fun h => ⟨⟨by omega, by omega⟩, h⟩⟩
def tailP (l : List Ev) (n i j : Nat) (kind from_ to_ : Int) : Bool :=
  if kind = 1 then isP l n i 3 from_ && (isP l n j 3 to_ && decide (tillOf l from_ < tillOf l to_))
  else if kind = 2 then isP l n i 3 from_ && (isP l n j 2 to_ && decide ((nth l i).val = (nth l j).val))
  else if kind = 3 then isP l n i 2 from_ && (isP l n j 3 to_ && decide (overP l i to_))
  else false
theorem holds_main {l : List Ev} {n : Nat} {kind from_ to_ : Int} {i j : Nat} (hl : l.length = n) (h1 : comOf l from_ = true) (h2 : comOf l to_ = true) (h3 : from_ ≠ to_) (h4 : i < n) (h5 : j < n) (h6 : (nth l i).key = (nth l j).key) :
    holds l ⟨kind, from_, to_, i, j⟩ = tailP l n i j kind from_ to_ := by
  have hm := holdsP_main (kind := kind) h1 h2 h3 (by rw [hl]; exact h4) (by rw [hl]; exact h5) h6
  unfold holds
  rw [Bool.eq_iff_iff, decide_eq_true_iff, hm]
  unfold tailP
  split
  · rename_i hk
    simp only [Bool.and_eq_true, isP_iff h4, isP_iff h5, decide_eq_true_eq]
    subst hk
    constructor
    · rintro ⟨a, b, ⟨_, c, d, e⟩ | ⟨c, _⟩ | ⟨c, _⟩⟩
      · exact ⟨⟨c, a⟩, ⟨d, b⟩, e⟩
      · omega
      · omega
    · rintro ⟨⟨c, a⟩, ⟨d, b⟩, e⟩
      exact ⟨a, b, .inl ⟨rfl, c, d, e⟩⟩
  · rename_i hk1
    split
    · rename_i hk
      simp only [Bool.and_eq_true, isP_iff h4, isP_iff h5, decide_eq_true_eq]
      subst hk
      constructor
      · rintro ⟨a, b, ⟨c, _⟩ | ⟨_, c, d, e⟩ | ⟨c, _⟩⟩
        · omega
        · exact ⟨⟨c, a⟩, ⟨d, b⟩, e⟩
        · omega
      · rintro ⟨⟨c, a⟩, ⟨d, b⟩, e⟩
        exact ⟨a, b, .inr (.inl ⟨rfl, c, d, e⟩)⟩
    · rename_i hk2
      split
      · rename_i hk
        simp only [Bool.and_eq_true, isP_iff h4, isP_iff h5, decide_eq_true_eq]
        subst hk
        constructor
        · rintro ⟨a, b, ⟨c, _⟩ | ⟨c, _⟩ | ⟨_, c, d, e⟩⟩
          · omega
          · omega
          · exact ⟨⟨c, a⟩, ⟨d, b⟩, e⟩
        · rintro ⟨⟨c, a⟩, ⟨d, b⟩, e⟩
          exact ⟨a, b, .inr (.inr ⟨rfl, c, d, e⟩)⟩
      · rename_i hk3
        constructor
        · rintro ⟨_, _, ⟨c, _⟩ | ⟨c, _⟩ | ⟨c, _⟩⟩ <;> contradiction
        · intro h; cases h
theorem e_isP (w : World) (A : Option Addr) (n cap : Nat) (l : List Ev) (i : Nat) (kind txn : Int) (hE : Evs w A n l) :
    Calls Tryz.prog 56 #[.slice A n cap, .int .i64 (i : Int), .int .i64 kind, .int .i64 txn] w fun e w' => e = .returned (.bool (isP l n i kind txn)) ∧ Ext w w' := by
  have := e_is w A n cap l i kind txn hE
  rw [Int.toNat_natCast] at this
  exact this
set_option maxRecDepth 100000 in
set_option maxHeartbeats 8000000 in
theorem e_holds (w : World) (A : Option Addr) (n cap : Nat) (l : List Ev) (x : Edge) (hE : Evs w A n l) :
    Calls Tryz.prog 26 #[.slice A n cap, .agg #[.int .i64 x.kind, .int .i64 x.from_, .int .i64 x.to_, .int .i64 x.i, .int .i64 x.j]] w fun e w' => e = .returned (.bool (holds l x)) ∧ Ext w w' := by
  have hX := Ext.refl w
  have HE := hid hE
  have hl := hid hE.len
  clear hE
  obtain ⟨R, hR⟩ : ∃ R, holds l x = R := ⟨_, rfl⟩
  have HR := hid hR
  rw [hR]
  clear hR
  obtain ⟨kind, from_, to_, i, j⟩ := x
  dsimp only
  have hX0 := hX.alloc (.cells #[.int .i64 kind, .int .i64 from_, .int .i64 to_, .int .i64 i, .int .i64 j] 24)
  have pe := Blk.new w 24 #[.int .i64 kind, .int .i64 from_, .int .i64 to_, .int .i64 i, .int .i64 j]
  have PE := hid pe
  clear pe
  obtain ⟨ca, hca⟩ : ∃ ca, (comOf l from_ && comOf l to_) = ca := ⟨_, rfl⟩
  obtain ⟨la, hla⟩ : ∃ la, decide (tillOf l from_ < tillOf l to_) = la := ⟨_, rfl⟩
  have HA := hid (fun W (h : Ext w W) => e_ahead W A n cap l from_ to_ (HE.out.ext h))
  rw [hca, hla] at HA
  have HCA := hid hca
  have HLA := hid hla
  clear hca hla
  go_enter Tryz.func26, Tryz.ntmps26
  cases ca
  · have hR2 : R = false := by
      rw [← HR.out]
      exact decide_eq_false (fun h => by have h1 := h.1; have h2 := h.2.1; have h3 := HCA.out; dsimp only at h1 h2; rw [h1, h2] at h3; cases h3)
    subst hR2
    go_wp2_with (go_at_call 55; (with_reducible refine (HA.out _ hX0).mono ?_); rintro e w1 ⟨rfl, hx1⟩; have hX1 := hX0.trans hx1; obtain ⟨a0, a1, a2, a3, a4⟩ := (PE.out.ext hx1).cells5)
    go_ret
    exact ⟨rfl, hX1⟩
  have hcf : comOf l from_ = true := by have := HCA.out; simp only [Bool.and_eq_true] at this; exact this.1
  have hct : comOf l to_ = true := by have := HCA.out; simp only [Bool.and_eq_true] at this; exact this.2
  by_cases hft : from_ = to_
  · have hR2 : R = false := by rw [← HR.out]; exact decide_eq_false (fun h => h.2.2.1 hft)
    subst hR2
    subst hft
    go_wp2_with (go_at_call 55; (with_reducible refine (HA.out _ hX0).mono ?_); rintro e w1 ⟨rfl, hx1⟩; have hX1 := hX0.trans hx1; obtain ⟨a0, a1, a2, a3, a4⟩ := (PE.out.ext hx1).cells5)
    go_ret
    exact ⟨rfl, hX1⟩
  have hb1 : (from_ == to_) = false := by simp [hft]
  by_cases hi0 : i < 0
  · have hR2 : R = false := by rw [← HR.out]; exact decide_eq_false (fun h => by have := h.2.2.2.1; dsimp only at this; omega)
    subst hR2
    go_wp2_with (go_at_call 55; (with_reducible refine (HA.out _ hX0).mono ?_); rintro e w1 ⟨rfl, hx1⟩; have hX1 := hX0.trans hx1; obtain ⟨a0, a1, a2, a3, a4⟩ := (PE.out.ext hx1).cells5)
    go_ret
    exact ⟨rfl, hX1⟩
  by_cases hi1 : (n : Int) ≤ i
  · have hR2 : R = false := by rw [← HR.out]; exact decide_eq_false (fun h => by have := h.2.2.2.2.1; dsimp only at this; have := hl.out; omega)
    subst hR2
    go_wp2_with (go_at_call 55; (with_reducible refine (HA.out _ hX0).mono ?_); rintro e w1 ⟨rfl, hx1⟩; have hX1 := hX0.trans hx1; obtain ⟨a0, a1, a2, a3, a4⟩ := (PE.out.ext hx1).cells5)
    go_ret
    exact ⟨rfl, hX1⟩
  by_cases hj0 : j < 0
  · have hR2 : R = false := by rw [← HR.out]; exact decide_eq_false (fun h => by have := h.2.2.2.2.2.1; dsimp only at this; omega)
    subst hR2
    go_wp2_with (go_at_call 55; (with_reducible refine (HA.out _ hX0).mono ?_); rintro e w1 ⟨rfl, hx1⟩; have hX1 := hX0.trans hx1; obtain ⟨a0, a1, a2, a3, a4⟩ := (PE.out.ext hx1).cells5)
    go_ret
    exact ⟨rfl, hX1⟩
  by_cases hj1 : (n : Int) ≤ j
  · have hR2 : R = false := by rw [← HR.out]; exact decide_eq_false (fun h => by have := h.2.2.2.2.2.2.1; dsimp only at this; have := hl.out; omega)
    subst hR2
    go_wp2_with (go_at_call 55; (with_reducible refine (HA.out _ hX0).mono ?_); rintro e w1 ⟨rfl, hx1⟩; have hX1 := hX0.trans hx1; obtain ⟨a0, a1, a2, a3, a4⟩ := (PE.out.ext hx1).cells5)
    go_ret
    exact ⟨rfl, hX1⟩
  obtain ⟨i, rfl⟩ : ∃ m : Nat, i = m := ⟨i.toNat, by omega⟩
  obtain ⟨j, rfl⟩ : ∃ m : Nat, j = m := ⟨j.toNat, by omega⟩
  have hi2 : i < n := by omega
  have hj2 : j < n := by omega
  obtain ⟨b, o, rfl, q0, q1, q2, q3⟩ := HE.out.opn (by omega)
  have hm := hid (fun (k : (nth l i).key = (nth l j).key) => holds_main (kind := kind) hl.out hcf hct hft hi2 hj2 k)
  have HI := hid (fun W (h : Ext w W) (k t : Int) => e_isP W (some ⟨b, o, none⟩) n cap l i k t (HE.out.ext h))
  have HJ := hid (fun W (h : Ext w W) (k t : Int) => e_isP W (some ⟨b, o, none⟩) n cap l j k t (HE.out.ext h))
  have HO := hid (fun W (h : Ext w W) => e_over W (some ⟨b, o, none⟩) n cap l i to_ (HE.out.ext h) hi2 hct)
  go_wp2_with (go_at_call 55; (with_reducible refine (HA.out _ hX0).mono ?_); rintro e w1 ⟨rfl, hx1⟩; have hX1 := hX0.trans hx1; have B1 := PE.out.ext hx1; obtain ⟨a0, a1, a2, a3, a4⟩ := B1.cells5)
  have c0 := q0 w1 i hX1 hi2
  have c1 := q1 w1 i hX1 hi2
  have c2 := q2 w1 i hX1 hi2
  have c3 := q3 w1 i hX1 hi2
  have d0 := q0 w1 j hX1 hj2
  have d1 := q1 w1 j hX1 hj2
  have d2 := q2 w1 j hX1 hj2
  have d3 := q3 w1 j hX1 hj2
  have hbb : b < w1.heap.size := block_lt_of_cell c0
  have hws := hX1.le
  have hb1' : w1.heap.size ≠ b := by omega
  have hb2' : w1.heap.size + 1 ≠ b := by omega
  have hw1' : w1.heap.size ≠ w.heap.size := by have := B1.lt; omega
  have hw2' : w1.heap.size + 1 ≠ w.heap.size := by have := B1.lt; omega
  clear q0 q1 q2 q3 a0 a1 a2
  go_region_held (fun W => W.cell? ⟨w.heap.size, 3, none⟩ = some (.int .i64 i) ∧ W.cell? ⟨w.heap.size, 4, none⟩ = some (.int .i64 j) ∧
      W.cell? ⟨b, o + i * 4, none⟩ = some (.int .i64 (nth l i).kind) ∧ W.cell? ⟨b, o + i * 4 + 1, none⟩ = some (.int .i64 (nth l i).txn) ∧ W.cell? ⟨b, o + i * 4 + 2, none⟩ = some (.string (nth l i).key) ∧ W.cell? ⟨b, o + i * 4 + 3, none⟩ = some (.string (nth l i).val) ∧
      W.cell? ⟨b, o + j * 4, none⟩ = some (.int .i64 (nth l j).kind) ∧ W.cell? ⟨b, o + j * 4 + 1, none⟩ = some (.int .i64 (nth l j).txn) ∧ W.cell? ⟨b, o + j * 4 + 2, none⟩ = some (.string (nth l j).key) ∧ W.cell? ⟨b, o + j * 4 + 3, none⟩ = some (.string (nth l j).val)) (go_keep) (fail)
  · have hXf : Ext w (((w1.alloc (.cells #[.int .i64 (nth l i).kind, .int .i64 (nth l i).txn, .string (nth l i).key, .string (nth l i).val] 50)).alloc (.cells #[.int .i64 (nth l j).kind, .int .i64 (nth l j).txn, .string (nth l j).key, .string (nth l j).val] 50)).drew) := ((hX1.alloc _).alloc _).drew
    have hPB := ((B1.alloc (.cells #[.int .i64 (nth l i).kind, .int .i64 (nth l i).txn, .string (nth l i).key, .string (nth l i).val] 50)).alloc (.cells #[.int .i64 (nth l j).kind, .int .i64 (nth l j).txn, .string (nth l j).key, .string (nth l j).val] 50)).drew
    have hPA := (((Blk.new w1 50 #[.int .i64 (nth l i).kind, .int .i64 (nth l i).txn, .string (nth l i).key, .string (nth l i).val])).alloc (.cells #[.int .i64 (nth l j).kind, .int .i64 (nth l j).txn, .string (nth l j).key, .string (nth l j).val] 50)).drew
    have hPC := ((Blk.new (w1.alloc (.cells #[.int .i64 (nth l i).kind, .int .i64 (nth l i).txn, .string (nth l i).key, .string (nth l i).val] 50)) 50 #[.int .i64 (nth l j).kind, .int .i64 (nth l j).txn, .string (nth l j).key, .string (nth l j).val])).drew
    rw [World.size_alloc] at hPC
    obtain ⟨Wf, hWf⟩ : ∃ W, ((w1.alloc (.cells #[.int .i64 (nth l i).kind, .int .i64 (nth l i).txn, .string (nth l i).key, .string (nth l i).val] 50)).alloc (.cells #[.int .i64 (nth l j).kind, .int .i64 (nth l j).txn, .string (nth l j).key, .string (nth l j).val] 50)).drew = W := ⟨_, rfl⟩
    rw [hWf] at hXf hPB hPA hPC ⊢
    clear hWf B1 hX1 c0 c1 c2 c3 d0 d1 d2 d3 a3 a4 hbb hws hb1' hb2' hw1' hw2'
    obtain ⟨a0, a1, a2, a3, a4⟩ := hPB.cells5
    obtain ⟨p0, p1, p2, p3⟩ := hPA.cells4
    obtain ⟨r0, r1, r2, r3⟩ := hPC.cells4
    have PB := hid hPB
    have PA := hid hPA
    have PC := hid hPC
    clear hPB hPA hPC
    by_cases hkey : (nth l i).key = (nth l j).key
    · have hR2 := hm.out hkey
      rw [HR.out] at hR2
      rw [← hkey] at r2
      clear hkey
      by_cases hk1 : kind = 1
      · subst hk1
        have hR3 : R = (isP l n i 3 from_ && (isP l n j 3 to_ && la)) := by rw [hR2]; simp [tailP, HLA.out]
        have HI1 := hid (fun W (h : Ext w W) => HI.out W h 3 from_)
        have HJ1 := hid (fun W (h : Ext w W) => HJ.out W h 3 to_)
        clear HO
        obtain ⟨bi, hbi⟩ : ∃ bi, isP l n i 3 from_ = bi := ⟨_, rfl⟩
        obtain ⟨bj, hbj⟩ : ∃ bj, isP l n j 3 to_ = bj := ⟨_, rfl⟩
        rw [hbi] at HI1 hR3
        rw [hbj] at HJ1 hR3
        clear hbi hbj hR2 HI HJ hm HR HLA
        cases bi
        · have hR4 : R = false := by rw [hR3]; rfl
          clear hR3
          subst hR4
          go_wp2_with (go_at_call 56; (with_reducible refine (HI1.out _ hXf).mono ?_); rintro e w2 ⟨rfl, hx2⟩; have hX2 := hXf.trans hx2; have hx2' := hid hx2; obtain ⟨y0, y1, y2, y3, y4⟩ := (PB.out.ext hx2).cells5)
          go_ret
          exact ⟨rfl, hX2⟩
        cases bj
        · have hR4 : R = false := by rw [hR3]; rfl
          clear hR3
          subst hR4
          go_wp2_with first | (go_at_call 56; (with_reducible refine (HI1.out _ hXf).mono ?_); rintro e w2 ⟨rfl, hx2⟩; have hX2 := hXf.trans hx2; have hx2' := hid hx2; obtain ⟨y0, y1, y2, y3, y4⟩ := (PB.out.ext hx2).cells5) | (go_at_call 56; (with_reducible refine (HJ1.out _ hX2).mono ?_); rintro e w3 ⟨rfl, hx3⟩; have hX3 := hX2.trans hx3; have hx3' := hid (hx2'.out.trans hx3))
          go_ret
          exact ⟨rfl, hX3⟩
        have hR4 : R = la := by rw [hR3]; rfl
        clear hR3
        go_wp2_with first | (go_at_call 56; (with_reducible refine (HI1.out _ hXf).mono ?_); rintro e w2 ⟨rfl, hx2⟩; have hX2 := hXf.trans hx2; have hx2' := hid hx2; obtain ⟨y0, y1, y2, y3, y4⟩ := (PB.out.ext hx2).cells5) | (go_at_call 56; (with_reducible refine (HJ1.out _ hX2).mono ?_); rintro e w3 ⟨rfl, hx3⟩; have hX3 := hX2.trans hx3; have hx3' := hid (hx2'.out.trans hx3))
        go_ret
        exact ⟨ret_bool hR4.symm, hX3⟩
      by_cases hk2 : kind = 2
      · have hbk : ((2 : Int) == 1) = false := rfl
        subst hk2
        have hR3 : R = (isP l n i 3 from_ && (isP l n j 2 to_ && decide ((nth l i).val = (nth l j).val))) := by rw [hR2]; simp [tailP]
        have HI1 := hid (fun W (h : Ext w W) => HI.out W h 3 from_)
        have HJ1 := hid (fun W (h : Ext w W) => HJ.out W h 2 to_)
        obtain ⟨bi, hbi⟩ : ∃ bi, isP l n i 3 from_ = bi := ⟨_, rfl⟩
        obtain ⟨bj, hbj⟩ : ∃ bj, isP l n j 2 to_ = bj := ⟨_, rfl⟩
        rw [hbi] at HI1 hR3
        rw [hbj] at HJ1 hR3
        clear hbi hbj hR2 HI HJ hm HR HLA
        cases bi
        · have hR4 : R = false := by rw [hR3]; rfl
          clear hR3
          subst hR4
          go_wp2_with (go_at_call 56; (with_reducible refine (HI1.out _ hXf).mono ?_); rintro e w2 ⟨rfl, hx2⟩; have hX2 := hXf.trans hx2; have hx2' := hid hx2; obtain ⟨y0, y1, y2, y3, y4⟩ := (PB.out.ext hx2).cells5)
          go_ret
          exact ⟨rfl, hX2⟩
        cases bj
        · have hR4 : R = false := by rw [hR3]; rfl
          clear hR3
          subst hR4
          go_wp2_with first | (go_at_call 56; (with_reducible refine (HI1.out _ hXf).mono ?_); rintro e w2 ⟨rfl, hx2⟩; have hX2 := hXf.trans hx2; have hx2' := hid hx2; obtain ⟨y0, y1, y2, y3, y4⟩ := (PB.out.ext hx2).cells5) | (go_at_call 56; (with_reducible refine (HJ1.out _ hX2).mono ?_); rintro e w3 ⟨rfl, hx3⟩; have hX3 := hX2.trans hx3; have hx3' := hid (hx2'.out.trans hx3); obtain ⟨s0, s1, s2, s3⟩ := (PA.out.ext hx3'.out).cells4; obtain ⟨t0, t1, t2, t3⟩ := (PC.out.ext hx3'.out).cells4)
          go_ret
          exact ⟨rfl, hX3⟩
        have hR4 : R = decide ((nth l i).val = (nth l j).val) := by rw [hR3]; rfl
        clear hR3
        go_wp2_with first | (go_at_call 56; (with_reducible refine (HI1.out _ hXf).mono ?_); rintro e w2 ⟨rfl, hx2⟩; have hX2 := hXf.trans hx2; have hx2' := hid hx2; obtain ⟨y0, y1, y2, y3, y4⟩ := (PB.out.ext hx2).cells5) | (go_at_call 56; (with_reducible refine (HJ1.out _ hX2).mono ?_); rintro e w3 ⟨rfl, hx3⟩; have hX3 := hX2.trans hx3; have hx3' := hid (hx2'.out.trans hx3); obtain ⟨s0, s1, s2, s3⟩ := (PA.out.ext hx3'.out).cells4; obtain ⟨t0, t1, t2, t3⟩ := (PC.out.ext hx3'.out).cells4)
        go_ret
        exact ⟨ret_bool hR4.symm, hX3⟩
      by_cases hk3 : kind = 3
      · subst hk3
        have hR3 : R = (isP l n i 2 from_ && (isP l n j 3 to_ && decide (overP l i to_))) := by rw [hR2]; simp [tailP]
        have HI1 := hid (fun W (h : Ext w W) => HI.out W h 2 from_)
        have HJ1 := hid (fun W (h : Ext w W) => HJ.out W h 3 to_)
        obtain ⟨bi, hbi⟩ : ∃ bi, isP l n i 2 from_ = bi := ⟨_, rfl⟩
        obtain ⟨bj, hbj⟩ : ∃ bj, isP l n j 3 to_ = bj := ⟨_, rfl⟩
        rw [hbi] at HI1 hR3
        rw [hbj] at HJ1 hR3
        clear hbi hbj hR2 HI HJ hm HR HLA
        cases bi
        · have hR4 : R = false := by rw [hR3]; rfl
          clear hR3
          subst hR4
          go_wp2_with (go_at_call 56; (with_reducible refine (HI1.out _ hXf).mono ?_); rintro e w2 ⟨rfl, hx2⟩; have hX2 := hXf.trans hx2; have hx2' := hid hx2; obtain ⟨y0, y1, y2, y3, y4⟩ := (PB.out.ext hx2).cells5)
          go_ret
          exact ⟨rfl, hX2⟩
        cases bj
        · have hR4 : R = false := by rw [hR3]; rfl
          clear hR3
          subst hR4
          go_wp2_with first | (go_at_call 56; (with_reducible refine (HI1.out _ hXf).mono ?_); rintro e w2 ⟨rfl, hx2⟩; have hX2 := hXf.trans hx2; have hx2' := hid hx2; obtain ⟨y0, y1, y2, y3, y4⟩ := (PB.out.ext hx2).cells5) | (go_at_call 56; (with_reducible refine (HJ1.out _ hX2).mono ?_); rintro e w3 ⟨rfl, hx3⟩; have hX3 := hX2.trans hx3; have hx3' := hid (hx2'.out.trans hx3); obtain ⟨s0, s1, s2, s3⟩ := (PA.out.ext hx3'.out).cells4; obtain ⟨z0, z1, z2, z3, z4⟩ := (PB.out.ext hx3'.out).cells5)
          go_ret
          exact ⟨rfl, hX3⟩
        have hR4 : R = decide (overP l i to_) := by rw [hR3]; rfl
        clear hR3
        go_wp2_with first | (go_at_call 56; (with_reducible refine (HI1.out _ hXf).mono ?_); rintro e w2 ⟨rfl, hx2⟩; have hX2 := hXf.trans hx2; have hx2' := hid hx2; obtain ⟨y0, y1, y2, y3, y4⟩ := (PB.out.ext hx2).cells5) | (go_at_call 56; (with_reducible refine (HJ1.out _ hX2).mono ?_); rintro e w3 ⟨rfl, hx3⟩; have hX3 := hX2.trans hx3; have hx3' := hid (hx2'.out.trans hx3); obtain ⟨s0, s1, s2, s3⟩ := (PA.out.ext hx3'.out).cells4; obtain ⟨z0, z1, z2, z3, z4⟩ := (PB.out.ext hx3'.out).cells5) | (go_at_call 57; (with_reducible refine (HO.out _ hX3).mono ?_); rintro e w4 ⟨rfl, hx4⟩; have hX4 := hX3.trans hx4)
        go_ret
        exact ⟨ret_bool hR4.symm, hX4⟩
      have hR3 : R = false := by rw [hR2]; simp [tailP, hk1, hk2, hk3]
      clear hR2
      subst hR3
      have hkb1 : (kind == 1) = false := by simp [hk1]
      have hkb2 : (kind == 2) = false := by simp [hk2]
      have hkb3 : (kind == 3) = false := by simp [hk3]
      go_wp2
      go_ret
      exact ⟨rfl, hXf⟩
    · have hR2 : R = false := by rw [← HR.out]; exact decide_eq_false (fun h => hkey (by have := h.2.2.2.2.2.2.2.1; simpa using this))
      subst hR2
      go_wp2
      go_ret
      exact ⟨rfl, hXf⟩
  · have hXf : Ext w (((w1.alloc (.cells #[.int .i64 (nth l j).kind, .int .i64 (nth l j).txn, .string (nth l j).key, .string (nth l j).val] 50)).alloc (.cells #[.int .i64 (nth l i).kind, .int .i64 (nth l i).txn, .string (nth l i).key, .string (nth l i).val] 50)).drew) := ((hX1.alloc _).alloc _).drew
    have hPB := ((B1.alloc (.cells #[.int .i64 (nth l j).kind, .int .i64 (nth l j).txn, .string (nth l j).key, .string (nth l j).val] 50)).alloc (.cells #[.int .i64 (nth l i).kind, .int .i64 (nth l i).txn, .string (nth l i).key, .string (nth l i).val] 50)).drew
    have hPA := ((Blk.new (w1.alloc (.cells #[.int .i64 (nth l j).kind, .int .i64 (nth l j).txn, .string (nth l j).key, .string (nth l j).val] 50)) 50 #[.int .i64 (nth l i).kind, .int .i64 (nth l i).txn, .string (nth l i).key, .string (nth l i).val])).drew
    have hPC := (((Blk.new w1 50 #[.int .i64 (nth l j).kind, .int .i64 (nth l j).txn, .string (nth l j).key, .string (nth l j).val])).alloc (.cells #[.int .i64 (nth l i).kind, .int .i64 (nth l i).txn, .string (nth l i).key, .string (nth l i).val] 50)).drew
    rw [World.size_alloc] at hPA
    obtain ⟨Wf, hWf⟩ : ∃ W, ((w1.alloc (.cells #[.int .i64 (nth l j).kind, .int .i64 (nth l j).txn, .string (nth l j).key, .string (nth l j).val] 50)).alloc (.cells #[.int .i64 (nth l i).kind, .int .i64 (nth l i).txn, .string (nth l i).key, .string (nth l i).val] 50)).drew = W := ⟨_, rfl⟩
    rw [hWf] at hXf hPB hPA hPC ⊢
    clear hWf B1 hX1 c0 c1 c2 c3 d0 d1 d2 d3 a3 a4 hbb hws hb1' hb2' hw1' hw2'
    obtain ⟨a0, a1, a2, a3, a4⟩ := hPB.cells5
    obtain ⟨p0, p1, p2, p3⟩ := hPA.cells4
    obtain ⟨r0, r1, r2, r3⟩ := hPC.cells4
    have PB := hid hPB
    have PA := hid hPA
    have PC := hid hPC
    clear hPB hPA hPC
    by_cases hkey : (nth l i).key = (nth l j).key
    · have hR2 := hm.out hkey
      rw [HR.out] at hR2
      rw [← hkey] at r2
      clear hkey
      by_cases hk1 : kind = 1
      · subst hk1
        have hR3 : R = (isP l n i 3 from_ && (isP l n j 3 to_ && la)) := by rw [hR2]; simp [tailP, HLA.out]
        have HI1 := hid (fun W (h : Ext w W) => HI.out W h 3 from_)
        have HJ1 := hid (fun W (h : Ext w W) => HJ.out W h 3 to_)
        clear HO
        obtain ⟨bi, hbi⟩ : ∃ bi, isP l n i 3 from_ = bi := ⟨_, rfl⟩
        obtain ⟨bj, hbj⟩ : ∃ bj, isP l n j 3 to_ = bj := ⟨_, rfl⟩
        rw [hbi] at HI1 hR3
        rw [hbj] at HJ1 hR3
        clear hbi hbj hR2 HI HJ hm HR HLA
        cases bi
        · have hR4 : R = false := by rw [hR3]; rfl
          clear hR3
          subst hR4
          go_wp2_with (go_at_call 56; (with_reducible refine (HI1.out _ hXf).mono ?_); rintro e w2 ⟨rfl, hx2⟩; have hX2 := hXf.trans hx2; have hx2' := hid hx2; obtain ⟨y0, y1, y2, y3, y4⟩ := (PB.out.ext hx2).cells5)
          go_ret
          exact ⟨rfl, hX2⟩
        cases bj
        · have hR4 : R = false := by rw [hR3]; rfl
          clear hR3
          subst hR4
          go_wp2_with first | (go_at_call 56; (with_reducible refine (HI1.out _ hXf).mono ?_); rintro e w2 ⟨rfl, hx2⟩; have hX2 := hXf.trans hx2; have hx2' := hid hx2; obtain ⟨y0, y1, y2, y3, y4⟩ := (PB.out.ext hx2).cells5) | (go_at_call 56; (with_reducible refine (HJ1.out _ hX2).mono ?_); rintro e w3 ⟨rfl, hx3⟩; have hX3 := hX2.trans hx3; have hx3' := hid (hx2'.out.trans hx3))
          go_ret
          exact ⟨rfl, hX3⟩
        have hR4 : R = la := by rw [hR3]; rfl
        clear hR3
        go_wp2_with first | (go_at_call 56; (with_reducible refine (HI1.out _ hXf).mono ?_); rintro e w2 ⟨rfl, hx2⟩; have hX2 := hXf.trans hx2; have hx2' := hid hx2; obtain ⟨y0, y1, y2, y3, y4⟩ := (PB.out.ext hx2).cells5) | (go_at_call 56; (with_reducible refine (HJ1.out _ hX2).mono ?_); rintro e w3 ⟨rfl, hx3⟩; have hX3 := hX2.trans hx3; have hx3' := hid (hx2'.out.trans hx3))
        go_ret
        exact ⟨ret_bool hR4.symm, hX3⟩
      by_cases hk2 : kind = 2
      · have hbk : ((2 : Int) == 1) = false := rfl
        subst hk2
        have hR3 : R = (isP l n i 3 from_ && (isP l n j 2 to_ && decide ((nth l i).val = (nth l j).val))) := by rw [hR2]; simp [tailP]
        have HI1 := hid (fun W (h : Ext w W) => HI.out W h 3 from_)
        have HJ1 := hid (fun W (h : Ext w W) => HJ.out W h 2 to_)
        obtain ⟨bi, hbi⟩ : ∃ bi, isP l n i 3 from_ = bi := ⟨_, rfl⟩
        obtain ⟨bj, hbj⟩ : ∃ bj, isP l n j 2 to_ = bj := ⟨_, rfl⟩
        rw [hbi] at HI1 hR3
        rw [hbj] at HJ1 hR3
        clear hbi hbj hR2 HI HJ hm HR HLA
        cases bi
        · have hR4 : R = false := by rw [hR3]; rfl
          clear hR3
          subst hR4
          go_wp2_with (go_at_call 56; (with_reducible refine (HI1.out _ hXf).mono ?_); rintro e w2 ⟨rfl, hx2⟩; have hX2 := hXf.trans hx2; have hx2' := hid hx2; obtain ⟨y0, y1, y2, y3, y4⟩ := (PB.out.ext hx2).cells5)
          go_ret
          exact ⟨rfl, hX2⟩
        cases bj
        · have hR4 : R = false := by rw [hR3]; rfl
          clear hR3
          subst hR4
          go_wp2_with first | (go_at_call 56; (with_reducible refine (HI1.out _ hXf).mono ?_); rintro e w2 ⟨rfl, hx2⟩; have hX2 := hXf.trans hx2; have hx2' := hid hx2; obtain ⟨y0, y1, y2, y3, y4⟩ := (PB.out.ext hx2).cells5) | (go_at_call 56; (with_reducible refine (HJ1.out _ hX2).mono ?_); rintro e w3 ⟨rfl, hx3⟩; have hX3 := hX2.trans hx3; have hx3' := hid (hx2'.out.trans hx3); obtain ⟨s0, s1, s2, s3⟩ := (PA.out.ext hx3'.out).cells4; obtain ⟨t0, t1, t2, t3⟩ := (PC.out.ext hx3'.out).cells4)
          go_ret
          exact ⟨rfl, hX3⟩
        have hR4 : R = decide ((nth l i).val = (nth l j).val) := by rw [hR3]; rfl
        clear hR3
        go_wp2_with first | (go_at_call 56; (with_reducible refine (HI1.out _ hXf).mono ?_); rintro e w2 ⟨rfl, hx2⟩; have hX2 := hXf.trans hx2; have hx2' := hid hx2; obtain ⟨y0, y1, y2, y3, y4⟩ := (PB.out.ext hx2).cells5) | (go_at_call 56; (with_reducible refine (HJ1.out _ hX2).mono ?_); rintro e w3 ⟨rfl, hx3⟩; have hX3 := hX2.trans hx3; have hx3' := hid (hx2'.out.trans hx3); obtain ⟨s0, s1, s2, s3⟩ := (PA.out.ext hx3'.out).cells4; obtain ⟨t0, t1, t2, t3⟩ := (PC.out.ext hx3'.out).cells4)
        go_ret
        exact ⟨ret_bool hR4.symm, hX3⟩
      by_cases hk3 : kind = 3
      · subst hk3
        have hR3 : R = (isP l n i 2 from_ && (isP l n j 3 to_ && decide (overP l i to_))) := by rw [hR2]; simp [tailP]
        have HI1 := hid (fun W (h : Ext w W) => HI.out W h 2 from_)
        have HJ1 := hid (fun W (h : Ext w W) => HJ.out W h 3 to_)
        obtain ⟨bi, hbi⟩ : ∃ bi, isP l n i 2 from_ = bi := ⟨_, rfl⟩
        obtain ⟨bj, hbj⟩ : ∃ bj, isP l n j 3 to_ = bj := ⟨_, rfl⟩
        rw [hbi] at HI1 hR3
        rw [hbj] at HJ1 hR3
        clear hbi hbj hR2 HI HJ hm HR HLA
        cases bi
        · have hR4 : R = false := by rw [hR3]; rfl
          clear hR3
          subst hR4
          go_wp2_with (go_at_call 56; (with_reducible refine (HI1.out _ hXf).mono ?_); rintro e w2 ⟨rfl, hx2⟩; have hX2 := hXf.trans hx2; have hx2' := hid hx2; obtain ⟨y0, y1, y2, y3, y4⟩ := (PB.out.ext hx2).cells5)
          go_ret
          exact ⟨rfl, hX2⟩
        cases bj
        · have hR4 : R = false := by rw [hR3]; rfl
          clear hR3
          subst hR4
          go_wp2_with first | (go_at_call 56; (with_reducible refine (HI1.out _ hXf).mono ?_); rintro e w2 ⟨rfl, hx2⟩; have hX2 := hXf.trans hx2; have hx2' := hid hx2; obtain ⟨y0, y1, y2, y3, y4⟩ := (PB.out.ext hx2).cells5) | (go_at_call 56; (with_reducible refine (HJ1.out _ hX2).mono ?_); rintro e w3 ⟨rfl, hx3⟩; have hX3 := hX2.trans hx3; have hx3' := hid (hx2'.out.trans hx3); obtain ⟨s0, s1, s2, s3⟩ := (PA.out.ext hx3'.out).cells4; obtain ⟨z0, z1, z2, z3, z4⟩ := (PB.out.ext hx3'.out).cells5)
          go_ret
          exact ⟨rfl, hX3⟩
        have hR4 : R = decide (overP l i to_) := by rw [hR3]; rfl
        clear hR3
        go_wp2_with first | (go_at_call 56; (with_reducible refine (HI1.out _ hXf).mono ?_); rintro e w2 ⟨rfl, hx2⟩; have hX2 := hXf.trans hx2; have hx2' := hid hx2; obtain ⟨y0, y1, y2, y3, y4⟩ := (PB.out.ext hx2).cells5) | (go_at_call 56; (with_reducible refine (HJ1.out _ hX2).mono ?_); rintro e w3 ⟨rfl, hx3⟩; have hX3 := hX2.trans hx3; have hx3' := hid (hx2'.out.trans hx3); obtain ⟨s0, s1, s2, s3⟩ := (PA.out.ext hx3'.out).cells4; obtain ⟨z0, z1, z2, z3, z4⟩ := (PB.out.ext hx3'.out).cells5) | (go_at_call 57; (with_reducible refine (HO.out _ hX3).mono ?_); rintro e w4 ⟨rfl, hx4⟩; have hX4 := hX3.trans hx4)
        go_ret
        exact ⟨ret_bool hR4.symm, hX4⟩
      have hR3 : R = false := by rw [hR2]; simp [tailP, hk1, hk2, hk3]
      clear hR2
      subst hR3
      have hkb1 : (kind == 1) = false := by simp [hk1]
      have hkb2 : (kind == 2) = false := by simp [hk2]
      have hkb3 : (kind == 3) = false := by simp [hk3]
      go_wp2
      go_ret
      exact ⟨rfl, hXf⟩
    · have hR2 : R = false := by rw [← HR.out]; exact decide_eq_false (fun h => hkey (by have := h.2.2.2.2.2.2.2.1; simpa using this))
      subst hR2
      go_wp2
      go_ret
      exact ⟨rfl, hXf⟩
end
end
end Go.Proofs.YtebjiimlcnmfpaaGreat

/-! The contract of edges.Holds, in the words of the printed ones. -/
namespace Go.Proofs.YtebjiimlcnmfpaaGreatPr
section
section
open Go Go.RowKit Go.Proofs.YtebjiimlcnmfpaaGreat

end
end
end Go.Proofs.YtebjiimlcnmfpaaGreatPr
end
