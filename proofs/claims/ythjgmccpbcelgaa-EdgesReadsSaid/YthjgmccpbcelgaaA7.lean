/-
  The program's chapter 8: a key's versions.
-/
import Derived.Shelf.SlSortCmp.NoneTotal
import Derived.Test.YthjgmccpbcelgaaA1
import Derived.Test.YthjgmccpbcelgaaA3
import Derived.Test.YthjgmccpbcelgaaLaysortLife
import Derived.Test.YthjgmccpbcelgaaA2
/-! A key's versions, on lists. -/
set_option linter.unusedVariables false
set_option linter.unusedSimpArgs false
namespace Go.Proofs.Ythjgmccpbcelgaa
section
open Go

/-- What is written of a key, last, by the transaction that is committed at place i. -/
def verAt (h : List Ev) (key : ByteArray) (i : Nat) : Option Int :=
  if (nth h i).kind = 4 ∧ endOf h (nth h i).txn = i ∧ 0 ≤ lastOf h (nth h i).txn key i then some (lastOf h (nth h i).txn key i) else none
def versions (h : List Ev) (key : ByteArray) : List Int := (List.range h.length).filterMap (verAt h key)
end
end Go.Proofs.Ythjgmccpbcelgaa

/-! A key's versions: what the program makes of the lives that it has sorted. -/
namespace Go.Proofs.Ythjgmccpbcelgaa
section
open Go

theorem keeps_le (p : Life → Bool) (l : List Life) : (keeps p l).length ≤ l.length := by unfold keeps; exact List.length_filter_le _ _
theorem lifeOf_till (h : List Ev) (k : Nat) : 0 ≤ (lifeOf h k).till ∧ (lifeOf h k).till ≤ h.length := by
  unfold lifeOf
  split
  · rename_i p hp
    have hm := List.mem_of_find?_eq_some hp
    unfold ofs at hm
    have h1 := (List.mem_filter.1 hm).1
    have h2 := List.snd_lt_of_mem_zipIdx h1
    simp
    omega
  · simp
theorem mem_livesFrom (h : List Ev) : ∀ (m i : Nat) (x : Life), x ∈ livesFrom h m i ↔ ∃ j, i ≤ j ∧ j < i + m ∧ firstOf (h.take j) (nth h j).txn < 0 ∧ x = lifeOf h j
  | 0, i, x => by simp [livesFrom]; omega
  | m + 1, i, x => by
    unfold livesFrom
    have ih := mem_livesFrom h m (i + 1) x
    constructor
    · intro hx
      split at hx
      · rcases List.mem_cons.1 hx with rfl | hx
        · exact ⟨i, by omega, by omega, by assumption, rfl⟩
        · obtain ⟨j, h1, h2, h3⟩ := ih.1 hx; exact ⟨j, by omega, by omega, h3⟩
      · obtain ⟨j, h1, h2, h3⟩ := ih.1 hx; exact ⟨j, by omega, by omega, h3⟩
    · rintro ⟨j, h1, h2, h3, rfl⟩
      by_cases e : j = i
      · subst e; rw [if_pos h3]; exact List.mem_cons_self
      · have := ih.2 ⟨j, by omega, by omega, h3, rfl⟩
        split
        · exact List.mem_cons_of_mem _ this
        · exact this
theorem till_keeps {p : Life → Bool} {l : List Ev} (hl : l.length ≤ 1000) : ∀ x ∈ keeps p (lives l), 0 ≤ x.till ∧ x.till ≤ 140737488355328 := by
  intro x hx
  unfold keeps at hx
  have h1 := (List.mem_filter.1 hx).1
  obtain ⟨j, _, _, _, rfl⟩ := (mem_livesFrom l _ _ x).1 h1
  have := lifeOf_till l j
  omega

/-- What is written of a key, last, by one of some lives. -/
def verOf (l : List Ev) (key : ByteArray) (x : Life) : Option Int := if 0 ≤ lastOf l x.txn key x.till then some (lastOf l x.txn key x.till) else none
end
end Go.Proofs.Ythjgmccpbcelgaa

/-! A key's versions: the lives, sorted by their ends, are those that are committed place by place. -/
namespace Go.Proofs.Ythjgmccpbcelgaa
section
open Go

/-- Places at which a transaction is committed. -/
def comAt (l : List Ev) (i : Nat) : Bool := (nth l i).kind == 4 && endOf l (nth l i).txn == (i : Int)
def coms (l : List Ev) : List Nat := (List.range l.length).filter (comAt l)
def lifeAt (l : List Ev) (i : Nat) : Life := (findL l (nth l i).txn).1

theorem endOf_place {l : List Ev} {t : Int} (h : 0 ≤ endOf l t) : ∃ e : Nat, endOf l t = e ∧ e < l.length ∧ (nth l e).txn = t ∧ ends (nth l e) = true := by
  rcases idx_nth (endsOf t) l with ⟨h1, _⟩ | ⟨e, he, he1, he2, _⟩
  · rw [endOf, h1] at h; omega
  · have : (nth l e).txn = t ∧ ends (nth l e) = true := by simpa [endsOf] using he2
    exact ⟨e, he1, he, this.1, this.2⟩
theorem mem_coms {l : List Ev} {i : Nat} (h : i ∈ coms l) : i < l.length ∧ (nth l i).kind = 4 ∧ endOf l (nth l i).txn = i := by
  unfold coms comAt at h
  have := List.mem_filter.1 h
  simp at this
  exact ⟨this.1, this.2.1, this.2.2⟩
theorem lifeAt_eq {l : List Ev} {i : Nat} (h : i ∈ coms l) : (lifeAt l i).txn = (nth l i).txn ∧ (lifeAt l i).till = i ∧ (lifeAt l i).com = true := by
  obtain ⟨h1, h2, h3⟩ := mem_coms h
  obtain ⟨_, a1, a2, a3⟩ := findL_of h1
  refine ⟨a1, ?_, ?_⟩
  · rw [lifeAt, a3, h3, if_neg (by omega)]
  · rw [lifeAt, a2]
    unfold comOf
    rw [h3]; simp [h2]

theorem lives_first {l : List Ev} {j : Nat} (hj : j < l.length) (h : firstOf (l.take j) (nth l j).txn < 0) : firstOf l (nth l j).txn = j := by
  rcases idx_nth (isOf (nth l j).txn) l with ⟨_, h2⟩ | ⟨f, hf, hf1, hf2, hf3⟩
  · have := h2 j hj; simp [isOf] at this
  · have hfj : f ≤ j := by
      rcases Nat.lt_or_ge j f with hlt | hge
      · have := hf3 j hlt; simp [isOf] at this
      · exact hge
    rcases Nat.lt_or_ge f j with hlt | hge
    · rcases idx_nth (isOf (nth l j).txn) (l.take j) with ⟨_, h2⟩ | ⟨q, _, hq, _⟩
      · have := h2 f (by simp; omega)
        rw [nth_take hlt, hf2] at this; cases this
      · rw [firstOf, hq] at h; omega
    · rw [firstOf, hf1]; omega
theorem first_none {l : List Ev} {t : Int} {f : Nat} (h : firstOf l t = f) : firstOf (l.take f) t < 0 := by
  rcases idx_nth (isOf t) l with ⟨h1, _⟩ | ⟨f', hf, hf1, hf2, hf3⟩
  · rw [firstOf, h1] at h; omega
  · obtain rfl : f' = f := by rw [firstOf, hf1] at h; omega
    rcases idx_nth (isOf t) (l.take f') with ⟨hq, _⟩ | ⟨q, hq0, hq, hq2, _⟩
    · rw [firstOf, hq]; omega
    · have hqf : q < f' := by simp at hq0; omega
      rw [nth_take hqf, hf3 q hqf] at hq2; cases hq2
/-- A life of a history is the one that Find tells. -/
theorem mem_lives {l : List Ev} {x : Life} (h : x ∈ lives l) : ∃ j, j < l.length ∧ firstOf l (nth l j).txn = j ∧ findL l (nth l j).txn = (x, true) ∧ x.from_ = j := by
  obtain ⟨j, _, h2, h3, rfl⟩ := (mem_livesFrom l _ _ x).1 h
  have hj : j < l.length := by omega
  have h4 := lives_first hj h3
  refine ⟨j, hj, h4, lifeOf_find l _ h4, ?_⟩
  unfold lifeOf
  split <;> rfl
theorem lives_mem {l : List Ev} {t : Int} {f : Nat} (h : firstOf l t = f) : (findL l t).1 ∈ lives l := by
  have h1 := firstOf_spec l t h
  refine (mem_livesFrom l _ _ _).2 ⟨f, by omega, by omega, ?_, ?_⟩
  · rw [h1.2]; exact first_none h
  · rw [lifeOf_find l t h]

theorem livesFrom_nodup (l : List Ev) : ∀ m i, (livesFrom l m i).Pairwise (fun a b => a.from_ < b.from_) ∧ ∀ x ∈ livesFrom l m i, (i : Int) ≤ x.from_
  | 0, _ => ⟨List.Pairwise.nil, fun x hx => by cases hx⟩
  | m + 1, i => by
    obtain ⟨h1, h2⟩ := livesFrom_nodup l m (i + 1)
    have h3 : (lifeOf l i).from_ = i := by unfold lifeOf; split <;> rfl
    unfold livesFrom
    split
    · refine ⟨List.Pairwise.cons (fun y hy => by have := h2 y hy; omega) h1, fun x hx => ?_⟩
      rcases List.mem_cons.1 hx with rfl | hx
      · omega
      · have := h2 x hx; omega
    · exact ⟨h1, fun x hx => by have := h2 x hx; omega⟩
theorem lives_nodup (l : List Ev) : (lives l).Nodup := (livesFrom_nodup l _ _).1.imp (fun h e => by rw [e] at h; omega)
theorem coms_sorted (l : List Ev) : (coms l).Pairwise (· < ·) := (List.pairwise_lt_range).filter _
theorem lifeAts_till (l : List Ev) : ((coms l).map (lifeAt l)).Pairwise (fun a b => a.till < b.till) := by
  rw [List.pairwise_map]
  refine (coms_sorted l).imp_of_mem fun {a b} ha hb h => ?_
  rw [(lifeAt_eq ha).2.1, (lifeAt_eq hb).2.1]
  omega
theorem coms_perm (l : List Ev) : (keeps (fun x => !x.com) (lives l)).Perm ((coms l).map (lifeAt l)) := by
  refine (List.perm_ext_iff_of_nodup ?_ ?_).2 fun x => ?_
  · exact (lives_nodup l).filter _
  · exact (lifeAts_till l).imp (fun h e => by rw [e] at h; omega)
  · constructor
    · intro hx
      have h1 := List.mem_filter.1 hx
      have hc : x.com = true := by simpa using h1.2
      obtain ⟨j, hj, h2, h3, _⟩ := mem_lives h1.1
      obtain ⟨_, a1, a2, a3⟩ := findL_of hj
      rw [h3] at a1 a2 a3
      simp only at a1 a2 a3
      rw [hc] at a2
      obtain ⟨b1, b2, b3⟩ := comOf_end a2.symm
      obtain ⟨e, c1, c2, c3, c4⟩ := endOf_place b1
      refine List.mem_map.2 ⟨e, ?_, ?_⟩
      · unfold coms comAt
        refine List.mem_filter.2 ⟨by simpa using c2, ?_⟩
        rw [c1] at b3
        rw [c3, c1]
        simpa using b3
      · unfold lifeAt
        rw [c3, h3]
    · intro hx
      obtain ⟨i, hi, rfl⟩ := List.mem_map.1 hx
      obtain ⟨h1, h2, h3⟩ := mem_coms hi
      have h4 := isOf_first h1
      refine List.mem_filter.2 ⟨?_, by simp [(lifeAt_eq hi).2.2]⟩
      exact lives_mem (f := (firstOf l (nth l i).txn).toNat) (by omega)
theorem fm_congr {α β : Type} {f g : α → Option β} : ∀ {l : List α}, (∀ x ∈ l, f x = g x) → l.filterMap f = l.filterMap g
  | [], _ => rfl
  | x :: r, h => by
    rw [List.filterMap_cons, List.filterMap_cons, h x List.mem_cons_self, fm_congr fun y hy => h y (List.mem_cons_of_mem _ hy)]
theorem vers_eq {l : List Ev} {n : Nat} {key : ByteArray} {ls : List Life} (hl : l.length = n) (hp : ls.Perm (keeps (fun x => !x.com) (lives l))) (hs : ls.Pairwise (fun a b => a.till ≤ b.till)) : ls.filterMap (verOf l key) = versions l key := by
  have hp2 := hp.trans (coms_perm l)
  have e : ls = (coms l).map (lifeAt l) := by
    refine List.Perm.eq_of_pairwise (le := fun a b : Life => a.till ≤ b.till) ?_ hs ((lifeAts_till l).imp (fun h => by omega)) hp2
    intro a b ha hb h1 h2
    have ha' := (hp2.mem_iff).1 ha
    obtain ⟨i, hi, rfl⟩ := List.mem_map.1 ha'
    obtain ⟨j, hj, rfl⟩ := List.mem_map.1 hb
    rw [(lifeAt_eq hi).2.1, (lifeAt_eq hj).2.1] at h1 h2
    obtain rfl : i = j := by omega
    rfl
  rw [e, List.filterMap_map]
  unfold versions coms
  rw [List.filterMap_filter]
  refine fm_congr fun i hi => ?_
  unfold verAt
  cases hc : comAt l i with
  | true =>
    have hi2 : i ∈ coms l := List.mem_filter.2 ⟨hi, hc⟩
    obtain ⟨h1, h2, h3⟩ := mem_coms hi2
    obtain ⟨a1, a2, _⟩ := lifeAt_eq hi2
    simp only [if_true, Function.comp_apply]
    unfold verOf
    rw [a1, a2]
    simp [h2, h3]
  | false =>
    unfold comAt at hc
    simp at hc
    rw [if_neg (by simp), if_neg (fun h => hc h.1 h.2.1)]
end
end Go.Proofs.Ythjgmccpbcelgaa

/-! A row of one's own whose elements have several cells, ahead of slices.SortFunc and behind it. -/
namespace Go.Proofs.Ythjgmccpbcelgaa
section
open Go Go.RowKit Go.Proofs Go.Shelf
set_option linter.unusedSimpArgs false
set_option linter.unusedVariables false

theorem flatK_list {α : Type} [Inhabited α] (enc : α → List Value) (k : Nat) (hk : ∀ x, (enc x).length = k) (l : List α) : (Go.Sort.flatK enc k l.toArray).toList = l.flatMap enc := by
  apply List.ext_getElem?
  intro t
  rw [Array.getElem?_toList]
  by_cases ht : t < l.length * k
  · have h0 : 0 < k := by
      rcases Nat.eq_zero_or_pos k with h0 | h0
      · subst h0; simp at ht
      · exact h0
    have hd : t / k < l.length := (Nat.div_lt_iff_lt_mul h0).2 ht
    have hm : t % k < k := Nat.mod_lt _ h0
    have h1 := flatMap_get k default enc hk l (t / k) (t % k) hd hm
    rw [Nat.div_add_mod' t k] at h1
    rw [h1]
    have h2 := Go.Sort.get_flatK enc k l.toArray t (by simpa using ht)
    have hs : t < (Go.Sort.flatK enc k l.toArray).size := by simpa [Go.Sort.flatK] using ht
    rw [getElem!_pos _ t hs] at h2
    rw [Array.getElem?_eq_getElem hs, h2]
    have e1 : (l.toArray)[t / k]! = l.getD (t / k) default := by simp [List.getD_eq_getElem?_getD, getElem!_pos, hd]
    rw [e1]
    have hm2 : t % k < (enc (l.getD (t / k) default)).length := by rw [hk]; exact hm
    rw [List.getElem?_eq_getElem hm2, getElem!_pos (enc (l.getD (t / k) default)) _ hm2]
  · rw [Array.getElem?_eq_none (by simp [Go.Sort.flatK]; omega), List.getElem?_eq_none (by rw [flatMap_len k enc hk]; omega)]

theorem holdsK_own {α : Type} [Inhabited α] {enc : α → List Value} {k : Nat} (hk : ∀ x, (enc x).length = k) {w : World} {g : Nat} {cur : Array Value} {e : TypeId} {l : List α} (hb : w.heap[g]? = some (.cells cur e (0, 0)))
    (ht : cur.toList.take (l.length * k) = l.flatMap enc) : Go.Sort.HoldsK enc k w g 0 l.toArray := by
  intro j hj
  have hj' : j < l.length * k := by simpa [Go.Sort.flatK] using hj
  refine ⟨?_, by simp [World.frozen?, hb]⟩
  have h1 : (cur.toList.take (l.length * k))[j]? = (Go.Sort.flatK enc k l.toArray).toList[j]? := by rw [ht, flatK_list enc k hk]
  rw [List.getElem?_take_of_lt hj'] at h1
  simp only [World.cell?, hb, Nat.zero_add]
  simp only [Option.isSome_none, Bool.false_eq_true, if_false]
  rw [← Array.getElem?_toList, h1, Array.getElem?_toList, Array.getElem?_eq_getElem hj, getElem!_pos (Go.Sort.flatK enc k l.toArray) j hj]
  rfl

theorem heap_sortedK {w : World} {g n : Nat} {os : Array Obj} {cur : Array Value} {e : TypeId} {fr : Nat × Nat} (F : Array Value) (hb : w.heap[g]? = some (.cells cur e fr)) :
    (Go.Sort.grow (Go.Sort.putRow id (Go.Sort.ahead w n) g 0 F) os).heap[g]? = some (.cells (Go.Sort.putCells id 0 F cur) e fr) := by
  have hg : g < w.heap.size := (Array.getElem?_eq_some_iff.1 hb).1
  rw [Go.Sort.heap_grow_old _ _ (by simpa using hg)]
  simp [Go.Sort.putRow, Go.Sort.mapBlock, Go.Sort.ahead, Array.getElem?_modify, hb, Go.Sort.onCells]
theorem grownBy_sortedK {w : World} {g n : Nat} {os : Array Obj} (F : Array Value) : w.grownBy (Go.Sort.grow (Go.Sort.putRow id (Go.Sort.ahead w n) g 0 F) os) (some g) := by
  refine ⟨rfl, rfl, rfl, by simp, fun k hk hne => ?_⟩
  rw [Go.Sort.heap_grow_old _ _ (by simpa using hk)]
  have : g ≠ k := fun e => hne (by rw [e])
  simp [Go.Sort.putRow, Go.Sort.mapBlock, Go.Sort.ahead, Array.getElem?_modify, this]
theorem take_putCellsK (cur F : Array Value) (h : F.size ≤ cur.size) : (Go.Sort.putCells id 0 F cur).toList.take F.size = F.toList := by
  apply List.ext_getElem?
  intro j
  by_cases hj : j < F.size
  · rw [List.getElem?_take_of_lt hj, Array.getElem?_toList, Array.getElem?_toList]
    simp [Go.Sort.putCells, hj, show j < cur.size by omega]
  · rw [List.getElem?_take_eq_none (by omega), List.getElem?_eq_none (by simp; omega)]
/-- Behind the sort the same slice owns the sorted list. -/
theorem ownsRow_sortedK {α : Type} [Inhabited α] {enc : α → List Value} {k : Nat} (hk : ∀ x, (enc x).length = k) {w : World} {base g cap n : Nat} {e : TypeId} {os : Array Obj} {cur : Array Value} {m : Nat} {ts : List α} (hl : ts.length = m) (hbase : base ≤ g) (hb : w.heap[g]? = some (.cells cur e (0, 0)))
    (h1 : m ≤ cap) (h2 : cap ≤ maxLen) (h3 : cur.size = cap * k) :
    (sortWorldK enc k w g 0 n ts.toArray os).ownsRow base e k (.slice (some ⟨g, 0, none⟩) m cap) m (ts.flatMap enc) := by
  have hF : (Go.Sort.flatK enc k ts.toArray).size = m * k := by simp [Go.Sort.flatK, hl]
  have hmc := Nat.mul_le_mul_right k h1
  refine ⟨by rw [flatMap_len k enc hk, hl], .inr ⟨g, cap, _, rfl, hbase, heap_sortedK _ hb, h1, h2, by simp [Go.Sort.putCells, h3], ?_⟩⟩
  have := take_putCellsK cur (Go.Sort.flatK enc k ts.toArray) (by omega)
  rw [hF, flatK_list enc k hk] at this
  exact this
end
end Go.Proofs.Ythjgmccpbcelgaa

/-! slices.SortFunc over lives, by where they end. -/
namespace Go.Proofs.Ythjgmccpbcelgaa
section
open Go Go.RowKit Go.Proofs Go.Shelf
set_option linter.unusedSimpArgs false
set_option linter.unusedVariables false

/-- Lives whose ends are places. -/
structure LifeQ where
  v : Life
  ok : 0 ≤ v.till ∧ v.till ≤ 140737488355328
instance : Inhabited LifeQ := ⟨⟨Life.z, by decide, by decide⟩⟩
def LifeQ.cs (x : LifeQ) : List Value := x.v.cs
def byTill (x y : LifeQ) : Int := x.v.till - y.v.till

set_option maxHeartbeats 1000000 in
theorem h_byTill (x y : LifeQ) (W : World) : Calls Try.prog 102 #[.agg x.cs.toArray, .agg y.cs.toArray] W fun e w' => e = .returned (.int .i64 (byTill x y)) ∧ ∃ q os', w' = Go.Sort.grow (W.drewN q) os' := by
  obtain ⟨⟨a0, a1, a2, a3⟩, hx⟩ := x
  obtain ⟨⟨b0, b1, b2, b3⟩, hy⟩ := y
  obtain ⟨hx1, hx2⟩ := hx
  obtain ⟨hy1, hy2⟩ := hy
  simp only at hx1 hx2 hy1 hy2
  show Calls Try.prog 102 #[.agg #[.int .i64 a0, .int .i64 a1, .int .i64 a2, .bool a3], .agg #[.int .i64 b0, .int .i64 b1, .int .i64 b2, .bool b3]] W fun e w' => e = .returned (.int .i64 (a2 - b2)) ∧ ∃ q os', w' = Go.Sort.grow (W.drewN q) os'
  go_enter Try.func102, Try.ntmps102
  go_wp2
  go_ret
  exact ⟨rfl, 0, _, by rw [Go.Sort.alloc_eq_grow, Go.Sort.alloc_eq_grow, Go.Sort.grow_grow]; rfl⟩

theorem lt_till (x y : LifeQ) : ltOf byTill x y = decide (x.v.till < y.v.till) := by
  unfold ltOf byTill
  exact decide_eq_decide.2 (by omega)
theorem swo_till : Go.Sort.SWO (ltOf byTill) where
  irrefl x := by rw [lt_till]; exact decide_eq_false (by omega)
  trans x y z h1 h2 := by
    rw [lt_till] at *
    have a1 := of_decide_eq_true h1
    have a2 := of_decide_eq_true h2
    exact decide_eq_true (by omega)
  ntrans x y z h1 h2 := by
    rw [lt_till] at *
    have a1 := of_decide_eq_false h1
    have a2 := of_decide_eq_false h2
    exact decide_eq_false (by omega)
theorem lifeQs : ∀ (l : List Life), (∀ x ∈ l, 0 ≤ x.till ∧ x.till ≤ 140737488355328) → ∃ d : List LifeQ, d.map LifeQ.v = l
  | [], _ => ⟨[], rfl⟩
  | x :: r, h => by
    obtain ⟨d, hd⟩ := lifeQs r fun y hy => h y (List.mem_cons_of_mem _ hy)
    exact ⟨⟨x, h x List.mem_cons_self⟩ :: d, by rw [List.map_cons, hd]⟩

theorem sortLifes (w : World) (B : Nat) (v : Value) (l : List Life) (hq : ∀ x ∈ l, 0 ≤ x.till ∧ x.till ≤ 140737488355328) (hB : B ≤ w.heap.size) (hn : l.length ≤ 1000) (hown : w.ownsRow B 33 4 v l.length (l.flatMap Life.cs)) :
    Calls Try.prog 101 #[v, .func (.func 102) #[] #[]] w fun e w' => e = .returned (.tuple #[]) ∧ ∃ l' : List Life, l'.Perm l ∧ l'.Pairwise (fun a b => a.till ≤ b.till) ∧ w'.ownsRow B 33 4 v l'.length (l'.flatMap Life.cs) ∧ Below B w w' := by
  obtain ⟨h1, ⟨rfl, h3⟩ | ⟨g, cap, cur, rfl, h3, h4, h5, h6, h7, h8⟩⟩ := hown
  · obtain rfl : l = [] := List.length_eq_zero_iff.1 h3
    refine (AnyF.slices_SortFunc_none sortLife none 0 (.func (.func 102) #[] #[]) w).mono ?_
    rintro e w' ⟨rfl, hw⟩
    rw [hw]
    exact ⟨rfl, [], List.Perm.refl _, List.Pairwise.nil, World.ownsRow_nil _ _ _ _, Below.refl _ _⟩
  · obtain ⟨d, hd1⟩ := lifeQs l hq
    have hdl : d.length = l.length := by rw [← hd1, List.length_map]
    have hdf : d.flatMap LifeQ.cs = l.flatMap Life.cs := by
      conv => rhs; rw [← hd1]
      rw [List.flatMap_map]; rfl
    have hH : Go.Sort.HoldsK LifeQ.cs 4 w g 0 d.toArray := holdsK_own (enc := LifeQ.cs) (k := 4) (fun _ => rfl) h4 (by rw [hdl, hdf]; exact h8)
    have hcon := AnyQ.slices_SortFunc sortLife 4 Try.isAgg33 Try.sizeOf33 LifeQ.cs (fun _ => rfl) (fun x v hv => by simp [LifeQ.cs, Life.cs] at hv; rcases hv with rfl | rfl | rfl | rfl <;> rfl) byTill swo_till 102 #[] g 0 cap d.toArray w
      (enters_of Try.func102 (by kernel_rfl) rfl) (fun _ _ _ _ x y => h_byTill x y _) hH (Array.getElem?_eq_some_iff.1 h4).1 (by simp; omega)
    have e1 : d.toArray.size = l.length := by simp [hdl]
    rw [e1] at hcon
    refine hcon.mono ?_
    rintro e w' ⟨rfl, d', n, os, ⟨p1, _, p3⟩, hs, rfl⟩
    have e2 : d'.size = l.length := by rw [p1, e1]
    have e3 : (d'.extract 0 l.length).toList = d'.toList := by rw [← e2]; simp
    have e4 : (d.toArray.extract 0 l.length).toList = d := by rw [← e1]; simp
    rw [e3, e4] at p3
    refine ⟨rfl, d'.toList.map LifeQ.v, ?_, ?_, ?_, ?_⟩
    · rw [← hd1]; exact p3.map _
    · rw [List.pairwise_map, List.pairwise_iff_getElem]
      intro i j hi hj hij
      have hi' : i < d'.size := by simpa using hi
      have hj' : j < d'.size := by simpa using hj
      have := hs i j (Nat.zero_le _) hij (by omega)
      rw [getElem!_pos d' i hi', getElem!_pos d' j hj'] at this
      rw [lt_till] at this
      have := of_decide_eq_false this
      simp only [Array.getElem_toList]
      omega
    · have e5 : (d'.toList.map LifeQ.v).flatMap Life.cs = d'.toList.flatMap LifeQ.cs := by rw [List.flatMap_map]; rfl
      have e6 : (d'.toList.map LifeQ.v).length = l.length := by simp [e2]
      rw [e5, e6]
      have := ownsRow_sortedK (enc := LifeQ.cs) (k := 4) (fun _ => rfl) (n := n) (os := os) (m := l.length) (ts := d'.toList) (by simp [e2]) h3 h4 h5 h6 h7
      exact this
    · have hg := grownBy_sortedK (w := w) (g := g) (n := n) (os := os) (Go.Sort.flatK LifeQ.cs 4 d')
      exact Below.grown (Below.refl _ _) hg hB (fun k hk => by cases hk; exact h3)
end
end Go.Proofs.Ythjgmccpbcelgaa

/-! The program's history.Versions. -/
namespace Go.Proofs.Ythjgmccpbcelgaa
section
open Go Go.RowKit Go.Proofs
set_option linter.unusedSimpArgs false
set_option linter.unusedVariables false
attribute [local go_sem] Ext.alloc Ext.alloc2 Ext.alloc3 Ext.alloc4 Ext.drewN_alloc Ext.drewN_alloc2 Ext.drew_alloc Ext.drew Ext.drewN toList_beq
attribute [-go_sem] Builtin.append_

set_option maxHeartbeats 400000 in
theorem h_gone (W : World) (x : Life) : Calls Try.prog 100 (#[.agg #[.int .i64 x.txn, .int .i64 x.from_, .int .i64 x.till, .bool x.com]] ++ #[]) W fun e w' => e = .returned (.bool (!x.com)) ∧ Ext W w' := by
  show Calls Try.prog 100 #[.agg #[.int .i64 x.txn, .int .i64 x.from_, .int .i64 x.till, .bool x.com]] W _
  have hX := Ext.refl W
  go_enter Try.func100, Try.ntmps100
  go_wp2
  go_ret
  exact ⟨rfl, (by repeat (first | assumption | apply Ext.alloc | apply Ext.drewN | apply Ext.drew | (refine Ext.setCell (by simp <;> omega) ?_ _)))⟩

theorem infoInt : (Try.prog.info? 3).map (fun i => (i.zero, i.size, i.bytes)) = some (some (.int .i64 0), 1, 8) := by kernel_rfl
theorem own_base {w : World} {base base' : Nat} {e : TypeId} {size n : Nat} {v : Value} {xs : List Value} (h : w.ownsRow base e size v n xs) (hb : base' ≤ base) : w.ownsRow base' e size v n xs := by
  obtain ⟨h1, h2 | ⟨g, cap, cur, h3, h4, h5⟩⟩ := h
  · exact ⟨h1, .inl h2⟩
  · exact ⟨h1, .inr ⟨g, cap, cur, h3, Nat.le_trans hb h4, h5⟩⟩
theorem lives_row {l : List Ev} {n : Nat} {W : World} {B : Nat} {v : Value} {ls : List Life} (hl : l.length = n) (hn : n ≤ 1000) (hp : ls.Perm (keeps (fun x => !x.com) (lives l))) (h : W.ownsRow B 33 4 v ls.length (ls.flatMap Life.cs)) :
    ls.length ≤ 1000 ∧ ∃ A c, v = .slice A ls.length c ∧ Hid (Lifes W A ls.length ls) := by
  have h1 := hp.length_eq
  have h2 := keeps_le (fun x => !x.com) (lives l)
  have h3 := lives_len l
  obtain ⟨A', c', e', hs'⟩ := sl_of_own (l := ls) (c := Life.cs) (z := Life.z) (hc := fun _ => rfl) h (by omega)
  exact ⟨by omega, A', c', e', hs'⟩
def intC (x : Int) : List Value := [.int .i64 x]

set_option maxRecDepth 100000 in
set_option maxHeartbeats 2000000 in
theorem h_versions (w : World) (A : Option Addr) (n cap : Nat) (l : List Ev) (key : ByteArray) (hE : Evs w A n l) (hn : n ≤ 1000) (hc : n ≤ cap) :
    Calls Try.prog 59 #[.slice A n cap, .string key] w fun e w' => ∃ v, e = .returned v ∧ w'.ownsRow w.heap.size 3 1 v (versions l key).length ((versions l key).flatMap intC) ∧ Ext w w' := by
  have hX := Ext.refl w
  have hbig := hE.big
  have hl := hid hE.len
  have HE := hid hE
  obtain ⟨i0, hi, hz0, hz1, hz2⟩ := info_parts infoInt
  clear hE
  go_enter Try.func59, Try.ntmps59
  go_wp2_with (first
    | (go_at_call 69; refine (h_lives_own _ _ _ _ l HE.out hn hc).mono ?_; rintro e w1 ⟨v1, rfl, hown1, hx1⟩)
    | (go_at_call 99; refine (delLife 100 #[] (fun x => !x.com) _ w.heap.size _ (lives l) (by have := lives_len l; have := hl.out; omega) hx1.le hown1 (enters_of Try.func100 (by kernel_rfl) rfl) (fun W x => h_gone W x)).mono ?_; rintro e w2 ⟨v2, rfl, hown2, hb2⟩; have hx2 : Ext w w2 := Below.trans hx1 hb2)
    | (go_at_call 101; refine (sortLifes _ w.heap.size _ (keeps (fun x => !x.com) (lives l)) (till_keeps (by have := hl.out; omega)) hx2.le (by have := keeps_le (fun x => !x.com) (lives l); have := lives_len l; have := hl.out; omega) hown2).mono ?_; rintro e w3 ⟨rfl, ls, hperm, hsort, hown3, hb3⟩; have hx3 : Ext w w3 := Below.trans hx2 hb3; have HP := hid hperm; have HS := hid hsort; clear hperm hsort; obtain ⟨hln, A', c', e', HL⟩ := lives_row hl.out hn HP.out hown3; subst e'))
  have HQ : Hid (∀ x ∈ ls, 0 ≤ x.till ∧ x.till ≤ 140737488355328) := hid fun x hx => till_keeps (by have := hl.out; omega) x (HP.out.mem_iff.1 hx)
  clear hown1 hown2 hown3 hx1 hx2 hb2 hb3
  go_loopw [6, 17] (fun out i W => Ext w3 W ∧ ∃ (k : Nat) (pre : List Int), k ≤ ls.length ∧ i = .int .i64 k ∧ W.ownsRow w3.heap.size 3 1 out pre.length (pre.flatMap intC) ∧ pre.length ≤ k ∧ Hid (pre = (ls.take k).filterMap (verOf l key))) (fun _ i _ => ls.length - (intOf i).toNat)
  case atStart => exact ⟨Ext.refl _, 0, [], by omega, rfl, World.ownsRow_nil _ _ _ _, by simp, hid (by simp)⟩
  case round =>
    obtain ⟨hW, k, pre, hk1, rfl, hown, hpl, hr⟩ := hrel
    by_cases hlt : k < ls.length
    · obtain ⟨b, o, rfl, h0, h1, h2, h3⟩ := HL.out.opn (by omega)
      have hst : Hid ((ls.take (k + 1)).filterMap (verOf l key) = (ls.take k).filterMap (verOf l key) ++ (verOf l key (lnth ls k)).toList) := hid (by
        rw [List.take_succ_eq_append_getElem hlt, List.filterMap_append]
        congr 1
        rw [show ls[k] = lnth ls k by simp [lnth, List.getD_eq_getElem?_getD, hlt]]
        cases h : verOf l key (lnth ls k) <;> simp [h])
      have hw3 : Ext w wr := hx3.trans hW
      by_cases hz : 0 ≤ lastOf l (lnth ls k).txn key (lnth ls k).till
      · have hv : Hid (verOf l key (lnth ls k) = some (lastOf l (lnth ls k).txn key (lnth ls k).till)) := hid (by unfold verOf; rw [if_pos hz])
        go_wp2_with (go_at_call 63; refine (h_last _ _ _ _ l _ _ _ (HE.out.ext (hw3.alloc _))).mono ?_; rintro e w4 ⟨rfl, hx4⟩; have hX4 := (hW.alloc (.cells #[.int .i64 (lnth ls k).txn, .int .i64 (lnth ls k).from_, .int .i64 (lnth ls k).till, .bool (lnth ls k).com] 33)).trans hx4; have hown4 := own_ext (hown.alloc (.cells #[.int .i64 (lnth ls k).txn, .int .i64 (lnth ls k).from_, .int .i64 (lnth ls k).till, .bool (lnth ls k).com] 33)) (by have := hW.le; simp; omega) hx4)
        obtain ⟨v', w5, hrun, hown5, hgrow, _⟩ := run_append_own (P := Try.prog) _ w3.heap.size 53 53 3 i0 (.int .i64 0) 1 8 Try.underlying53 hi hz0 hz1 hz2 rfl (by decide) _ _ _ (hown4.alloc (.cells #[.int .i64 (lastOf l (lnth ls k).txn key (lnth ls k).till)] 3)) ⟨w4.heap.size, 0, none⟩ 1 1 [.int .i64 (lastOf l (lnth ls k).txn key (lnth ls k).till)] rfl (new_cells rfl) (by intro u hu; simp at hu; subst hu; rfl) (by unfold maxLen; omega) (by omega) (by have := hX4.le; simp; omega)
        rw [hrun]
        have e1 : pre.flatMap intC ++ [.int .i64 (lastOf l (lnth ls k).txn key (lnth ls k).till)] = (pre ++ [lastOf l (lnth ls k).txn key (lnth ls k).till]).flatMap intC := by simp [intC]
        have e2 : pre.length + 1 = (pre ++ [lastOf l (lnth ls k).txn key (lnth ls k).till]).length := by simp
        rw [e1, e2] at hown5
        have hW5 : Ext w3 w5 := Ext.grown (Ext.alloc hX4 _) hgrow (own_block hown4)
        clear e1 e2
        go_wp2
        go_roundw
        case rel =>
          refine ⟨hW5, k + 1, pre ++ [lastOf l (lnth ls k).txn key (lnth ls k).till], by omega, by go_num, hown5, by simp; omega, hid ?_⟩
          rw [hst.out, hv.out, hr.out]; rfl
        case measure => simp [intOf]; omega
      · have hv : Hid (verOf l key (lnth ls k) = none) := hid (by unfold verOf; rw [if_neg hz])
        go_wp2_with (go_at_call 63; refine (h_last _ _ _ _ l _ _ _ (HE.out.ext (hw3.alloc _))).mono ?_; rintro e w4 ⟨rfl, hx4⟩; have hX4 := (hW.alloc (.cells #[.int .i64 (lnth ls k).txn, .int .i64 (lnth ls k).from_, .int .i64 (lnth ls k).till, .bool (lnth ls k).com] 33)).trans hx4; have hown4 := own_ext (hown.alloc (.cells #[.int .i64 (lnth ls k).txn, .int .i64 (lnth ls k).from_, .int .i64 (lnth ls k).till, .bool (lnth ls k).com] 33)) (by have := hW.le; simp; omega) hx4)
        go_roundw
        case rel =>
          refine ⟨hX4, k + 1, pre, by omega, by go_num, hown4, by omega, hid ?_⟩
          rw [hst.out, hv.out, hr.out]; simp
        case measure => simp [intOf]; omega
    · go_wp2
      have hb : pre = ls.filterMap (verOf l key) := by rw [hr.out, List.take_of_length_le (by omega)]
      have hb2 : pre = versions l key := by rw [hb]; exact vers_eq hl.out HP.out HS.out
      subst hb2
      go_ret
      exact ⟨_, rfl, own_base hown hx3.le, hx3.trans hW⟩
end
end Go.Proofs.Ythjgmccpbcelgaa
