/-
  The document's Judge, walked by hand, and its contract in the words of the printed ones.
-/
import Derived.Test.YtebjiimlcnmfpaaGreatS10
import Derived.Test.YtebjiimlcnmfpaaGreatPrCartoucheref10Nodes
import Derived.Test.YtebjiimlcnmfpaaGreatPrCartoucheref10Committed
import Derived.Test.YtebjiimlcnmfpaaGreatS16a
import Derived.Test.YtebjiimlcnmfpaaGreatPrCartoucheref12Flat
import Derived.Test.YtebjiimlcnmfpaaGreatS14
import Derived.Test.YtebjiimlcnmfpaaGreatB1
import Derived.Test.YtebjiimlcnmfpaaGreatPrCartoucheref09All
import Derived.Test.YtebjiimlcnmfpaaGreatPrCartoucheref11Ring
import Derived.Test.YtebjiimlcnmfpaaGreatS16
import Derived.Test.YtebjiimlcnmfpaaGreatS11r
import Derived.Test.YtebjiimlcnmfpaaGreatB31
import Derived.Test.YtebjiimlcnmfpaaGreatB21
import Derived.Test.YtebjiimlcnmfpaaGreatB13
section
set_option linter.unusedVariables false
set_option linter.unusedSimpArgs false
namespace Go.Proofs.YtebjiimlcnmfpaaGreatPr
open Go.Proofs.YtebjiimlcnmfpaaGreat
section
open Go Go.RowKit

theorem fm_cnt {α β : Type} (f : α → List β) (p : α → Bool) (c : Nat) (h : ∀ x, (f x).length ≤ if p x = true then c else 0) : ∀ l : List α, (l.flatMap f).length ≤ c * (l.filter p).length
  | [] => by simp
  | x :: r => by
    have := fm_cnt f p c h r
    have h1 := h x
    rw [List.flatMap_cons, List.length_append, List.filter_cons]
    cases hp : p x with
    | true =>
      rw [hp, if_pos rfl] at h1
      simp only [if_true, List.length_cons, Nat.mul_add]
      omega
    | false =>
      rw [hp, if_neg (by simp)] at h1
      simp only [Bool.false_eq_true, if_false]
      omega
theorem two_filters {α : Type} (p q r : α → Bool) (hp : ∀ x, p x = true → r x = true) (hq : ∀ x, q x = true → r x = true) (hd : ∀ x, p x = true → q x = false) : ∀ l : List α, (l.filter p).length + (l.filter q).length ≤ (l.filter r).length
  | [] => by simp
  | x :: t => by
    have := two_filters p q r hp hq hd t
    have h1 := hp x
    have h2 := hq x
    have h3 := hd x
    rw [List.filter_cons, List.filter_cons, List.filter_cons]
    cases hpx : p x <;> cases hqx : q x <;> cases hrx : r x <;> simp_all <;> omega
theorem one_hit {κ : Type} [DecidableEq κ] (a : κ) : ∀ ks : List κ, ks.Nodup → (ks.map (fun k => if a = k then 1 else 0)).sum ≤ 1
  | [], _ => by simp
  | k :: r, h => by
    obtain ⟨h1, h2⟩ := List.nodup_cons.1 h
    have ih := one_hit a r h2
    rw [List.map_cons, List.sum_cons]
    by_cases e : a = k
    · have : (r.map (fun k => if a = k then 1 else 0)).sum = 0 := by
        have hz : r.map (fun k => if a = k then 1 else 0) = r.map (fun _ => 0) := List.map_congr_left fun y hy => if_neg (fun z => h1 (by rw [← e, z]; exact hy))
        rw [hz]
        clear hz ih h1 h2 h
        induction r with
        | nil => rfl
        | cons x t it => simpa using it
      rw [if_pos e]; omega
    · rw [if_neg e]; omega
theorem sum_add {κ : Type} (f g h : κ → Nat) (e : ∀ k, f k = g k + h k) : ∀ ks : List κ, (ks.map f).sum = (ks.map g).sum + (ks.map h).sum
  | [] => by simp
  | k :: r => by
    have := sum_add f g h e r
    rw [List.map_cons, List.map_cons, List.map_cons, List.sum_cons, List.sum_cons, List.sum_cons, e k]
    omega
theorem sum_cnt {α κ : Type} [DecidableEq κ] (key : α → κ) {ks : List κ} (hk : ks.Nodup) : ∀ l : List α, (ks.map (fun k => (l.filter (fun x => decide (key x = k))).length)).sum ≤ l.length
  | [] => by
    have : (ks.map (fun k => (([] : List α).filter (fun x => decide (key x = k))).length)).sum = 0 := by
      clear hk
      induction ks with
      | nil => rfl
      | cons x t it => simpa using it
    rw [this]; simp
  | x :: r => by
    have ih := sum_cnt key hk r
    have h1 := one_hit (key x) ks hk
    rw [sum_add (fun k => ((x :: r).filter (fun x => decide (key x = k))).length) (fun k => if key x = k then 1 else 0) (fun k => (r.filter (fun x => decide (key x = k))).length) (fun k => by
      rw [List.filter_cons]
      by_cases e : key x = k
      · rw [if_pos (decide_eq_true e), if_pos e, List.length_cons]; omega
      · rw [if_neg (by simpa using e), if_neg e]; omega) ks, List.length_cons]
    omega
theorem fm_sum {κ β : Type} (f : κ → List β) (g : κ → Nat) (h : ∀ k, (f k).length ≤ g k) : ∀ ks : List κ, (ks.flatMap f).length ≤ (ks.map g).sum
  | [] => by simp
  | k :: r => by
    have := fm_sum f g h r
    have h1 := h k
    rw [List.flatMap_cons, List.length_append, List.map_cons, List.sum_cons]
    omega
/-- Where a version is. -/
theorem verAt_is {l : List Ev} {key : ByteArray} {i : Nat} {v : Int} (h : verAt l key i = some v) : ∃ p : Nat, v = p ∧ p < l.length ∧ (nth l p).kind = 3 ∧ (nth l p).key = key ∧ (i : Int) = endOf l (nth l p).txn := by
  unfold verAt at h
  split at h
  · rename_i hc
    injection h with h
    have hl : lastOf l (nth l i).txn key i = lastIdx (wroteBy (nth l i).txn key) (l.take i) 0 (-1) := by unfold lastOf; rw [Int.toNat_natCast]
    rcases last_nth (wroteBy (nth l i).txn key) l i with ⟨h1, _⟩ | ⟨k, h1, h2, h3, h4, _⟩
    · rw [hl, h1] at hc; omega
    · rw [hl, h3] at h
      simp only [wroteBy, Bool.and_eq_true, beq_iff_eq, decide_eq_true_eq] at h4
      exact ⟨k, h.symm, h1, h4.1, h4.2.2, by rw [h4.2.1]; exact hc.2.1.symm⟩
  · cases h
theorem vers_len3 (l : List Ev) (key : ByteArray) : (versions l key).length ≤ ((List.range l.length).filter (fun p => decide ((nth l p).kind = 3) && decide ((nth l p).key = key))).length := by
  have hn : (versions l key).Nodup := by
    unfold versions
    refine List.pairwise_filterMap.2 ?_
    refine List.Pairwise.imp ?_ (List.nodup_range (n := l.length))
    intro a b hab x hx y hy e
    subst e
    obtain ⟨p, h1, _, _, _, h5⟩ := verAt_is hx
    obtain ⟨q, g1, _, _, _, g5⟩ := verAt_is hy
    obtain rfl : p = q := by omega
    exact hab (by omega)
  have hs : ∀ v ∈ versions l key, v ∈ ((List.range l.length).filter (fun p => decide ((nth l p).kind = 3) && decide ((nth l p).key = key))).map (fun p : Nat => (p : Int)) := fun v hv => by
    unfold versions at hv
    obtain ⟨i, _, hi⟩ := List.mem_filterMap.1 hv
    obtain ⟨p, rfl, h2, h3, h4, _⟩ := verAt_is hi
    exact List.mem_map.2 ⟨p, List.mem_filter.2 ⟨List.mem_range.2 h2, by rw [decide_eq_true h3, decide_eq_true h4]; rfl⟩, rfl⟩
  have := hn.length_le_of_subset hs
  rwa [List.length_map] at this
theorem readE_len (l : List Ev) (key : ByteArray) (vs : List Int) (i : Nat) : (readE l key vs i).length ≤ if (decide ((nth l i).kind = 2) && decide ((nth l i).key = key)) = true then 2 else 0 := by
  unfold readE
  by_cases h : (nth l i).key = key ∧ outer l i = true
  · have h2 : (nth l i).kind = 2 := by
      have := h.2
      unfold outer counts at this
      simp at this
      exact this.1.2.1
    have hR : (if (decide ((nth l i).kind = 2) && decide ((nth l i).key = key)) = true then 2 else 0) = 2 := if_pos (by rw [decide_eq_true h2, decide_eq_true h.1]; rfl)
    rw [if_pos h, hR]
    split
    · simp
    · rw [List.length_append]
      have h1 := putE_len l 2 (inth vs (Go.Proofs.YtebjiimlcnmfpaaGreat.seen l vs i).toNat).toNat i
      have h3 := putE_len l 3 i (inth vs (Go.Proofs.YtebjiimlcnmfpaaGreat.seen l vs i + 1).toNat).toNat
      split <;> split <;> (try simp only [List.length_nil]) <;> omega
  · rw [if_neg h]; simp
theorem ofE_len2 (l : List Ev) (key : ByteArray) : (ofE l key).length ≤ 2 * ((List.range l.length).filter (fun p => decide ((nth l p).key = key))).length := by
  have h1 := fm_len (verE l (versions l key)) 1 (fun q => putE_len _ _ _ _) (List.range ((versions l key).length - 1))
  have h2 := vers_len3 l key
  have h3 := fm_cnt (readE l key (versions l key)) (fun i => decide ((nth l i).kind = 2) && decide ((nth l i).key = key)) 2 (readE_len l key _) (List.range l.length)
  have h4 := two_filters (fun p => decide ((nth l p).kind = 3) && decide ((nth l p).key = key)) (fun p => decide ((nth l p).kind = 2) && decide ((nth l p).key = key)) (fun p => decide ((nth l p).key = key)) (fun x h => by simp at h; simp [h.2]) (fun x h => by simp at h; simp [h.2]) (fun x h => by simp at h; simp [h.1]) (List.range l.length)
  rw [List.length_range] at h1
  unfold ofE
  rw [List.length_append]
  omega
theorem toBA_inj {a b : List UInt8} (h : toBA a = toBA b) : a = b := by
  have := congrArg (fun x : ByteArray => x.data.toList) h
  exact this
theorem allE_len2 (xs : List S50) : (allE xs).length ≤ 2 * xs.length := by
  have hk : (keysSpec (evs xs)).Nodup := (keysSpec_are (evs xs)).1.imp fun h => fun e => by subst e; exact (List.lt_irrefl _ h).elim
  have h1 := fm_sum (fun key => (ofE (evs xs) key).map ofEdge) (fun key => 2 * ((List.range (evs xs).length).filter (fun p => decide ((nth (evs xs) p).key = key))).length) (fun key => by rw [List.length_map]; exact ofE_len2 _ _) ((keysSpec (evs xs)).map toBA)
  have hk2 : ((keysSpec (evs xs)).map toBA).Nodup := by
    unfold List.Nodup
    rw [List.pairwise_map]
    exact hk.imp fun h => fun e => h (toBA_inj e)
  have h2 : (((keysSpec (evs xs)).map toBA).map (fun key => ((List.range (evs xs).length).filter (fun p => decide ((nth (evs xs) p).key = key))).length)).sum ≤ (List.range (evs xs).length).length := sum_cnt (fun p : Nat => (nth (evs xs) p).key) hk2 (List.range (evs xs).length)
  have hd : ∀ (f : ByteArray → Nat) (ks : List ByteArray), (ks.map (fun k => 2 * f k)).sum = 2 * (ks.map f).sum := fun f ks => by
    induction ks with
    | nil => rfl
    | cons x t it => rw [List.map_cons, List.map_cons, List.sum_cons, List.sum_cons, it]; omega
  rw [hd] at h1
  rw [List.length_range] at h2
  have h3 := evs_len xs
  unfold allE
  omega
end
end Go.Proofs.YtebjiimlcnmfpaaGreatPr
end
section
section
set_option linter.unusedVariables false
set_option linter.unusedSimpArgs false
namespace Go.Proofs.YtebjiimlcnmfpaaGreatPr
open Go.Proofs.YtebjiimlcnmfpaaGreat
open Go Go.RowKit

theorem wf_txn {l : List Ev} (hw : Wf l) {i : Nat} (hi : i < l.length) : 1 ≤ (nth l i).txn ∧ (nth l i).txn ≤ 32 := by
  have h := hw.step i hi
  unfold stepErr at h
  split at h
  · cases h
  · rename_i hm
    have := (may_iff _).1 (by simpa using hm)
    unfold MayP at this
    exact ⟨by omega, by omega⟩
def cmS (l : List Ev) (t : Int) : Int := if comOf l t = true then endOf l t else -1
theorem end_f (xs : List S50) (hn : xs.length ≤ 140737488351232) (t : Int) : cartoucheref08_End.f xs t (xs.length : Int) = some (endOf (evs xs) t) := by
  unfold cartoucheref08_End.f
  rw [if_pos ⟨hn, by omega, by omega⟩]
  congr 2
  rw [Int.toNat_natCast, List.take_of_length_le (by rw [evs_len]; omega)]
theorem committed_evt (xs : List S50) (hn : xs.length ≤ 140737488351232) (t : Int) : Evt (fun k => cartoucheref10_committed.f k xs t) (cmS (evs xs) t) := by
  have hE := end_f xs hn t
  unfold cmS
  by_cases h : endOf (evs xs) t < 0
  · have hc : comOf (evs xs) t = false := by unfold comOf; rw [decide_eq_false (by omega)]; rfl
    rw [if_neg (by rw [hc]; simp)]
    refine Evt.congr (f := fun k => cartoucheref10_committed.j0 k (endOf (evs xs) t) true) (fun k => ?_) (Evt.now1 fun k => ?_)
    · unfold cartoucheref10_committed.f
      rw [hE]
      simp only [Option.bind_some]
      rw [if_pos h]
    · simp only [cartoucheref10_committed.j0]
      rw [if_pos (by trivial)]
  · obtain ⟨e, he, hel, het, hends⟩ := endOf_place (l := evs xs) (t := t) (by omega)
    rw [evs_len] at hel
    rw [he]
    have hc : comOf (evs xs) t = ((nth (evs xs) e).kind == 4) := by unfold comOf; rw [he, decide_eq_true (by omega)]; simp
    refine Evt.congr (f := fun k => cartoucheref10_committed.j0 k (e : Int) ((nth (evs xs) e).kind != 4)) (fun k => ?_) (Evt.now1 fun k => ?_)
    · unfold cartoucheref10_committed.f
      rw [hE, he]
      simp only [Option.bind_some]
      rw [if_neg (by omega), if_pos (by omega), if_pos (by omega), rd_f0, Int.toNat_natCast]
    · simp only [cartoucheref10_committed.j0]
      by_cases hk : (nth (evs xs) e).kind = 4
      · rw [if_neg (by simp [hk]), if_pos (by rw [hc]; simp [hk])]
      · rw [if_pos (by simp [hk]), if_neg (by rw [hc]; simp [hk])]
theorem cm_neg {l : List Ev} {t : Int} : cmS l t ≥ 0 ↔ comOf l t = true := by
  unfold cmS
  constructor
  · intro h
    by_cases hc : comOf l t = true
    · exact hc
    · rw [if_neg hc] at h; omega
  · intro h
    rw [if_pos h]
    exact (comOf_end h).1
def upTo : Nat → List Int
  | 0 => []
  | d + 1 => ((300 : Int) - (d + 1 : Nat)) :: upTo d
theorem mem_upTo (x : Int) : ∀ d, x ∈ upTo d ↔ (300 : Int) - d ≤ x ∧ x < 300
  | 0 => by simp [upTo] <;> omega
  | d + 1 => by
    unfold upTo
    rw [List.mem_cons, mem_upTo x d]
    omega
theorem upTo_rising : ∀ d, (upTo d).Pairwise (· < ·)
  | 0 => List.Pairwise.nil
  | d + 1 => by
    unfold upTo
    refine List.Pairwise.cons (fun x hx => ?_) (upTo_rising d)
    have := (mem_upTo x d).1 hx
    omega
theorem nodes_l1 (xs : List S50) (hn : xs.length ≤ 300) (acc : List Int) (ha : acc.length ≤ 300) (t : Int) (R : List Int) (hnext : Evt (fun k => cartoucheref10_Nodes.l0 k xs (if comOf (evs xs) t = true then acc ++ [t] else acc) (wrap64 (t + 1))) R) :
    ∀ (d i : Nat) (b : Bool), i + d = xs.length → (b = true → ∃ j, j < xs.length ∧ (nth (evs xs) j).txn = t) → (b = false → ∀ j, j < i → (nth (evs xs) j).txn ≠ t) → Evt (fun k => cartoucheref10_Nodes.l1 k xs acc t b (i : Int)) R
  | 0, i, b, hi, hb, hb2 => by
    have j2 : ∀ c, c = comOf (evs xs) t → Evt (fun k => cartoucheref10_Nodes.j2 k xs acc t c) R := fun c hc => by
      refine Evt.step (fun k => ?_) hnext
      simp only [cartoucheref10_Nodes.j2]
      by_cases h : comOf (evs xs) t = true
      · rw [hc, if_pos h, if_pos (by omega), if_pos h]
      · rw [hc, if_neg h, if_neg h]
    cases b
    · have hno : comOf (evs xs) t = false := by
        cases h : comOf (evs xs) t with
        | false => rfl
        | true =>
          obtain ⟨h1, h2, _⟩ := comOf_end h
          obtain ⟨e, he, hel, het, _⟩ := endOf_place h1
          rw [evs_len] at hel
          exact absurd het (hb2 rfl e (by omega))
      refine Evt.step (fun k => ?_) (j2 false hno.symm)
      simp only [cartoucheref10_Nodes.l1]
      rw [if_neg (by omega), if_neg (by simp)]
    · refine Evt.step (f := fun k => (cartoucheref10_committed.f k xs t).bind fun t210 => (cartoucheref10_Nodes.j2 k xs acc t (decide (t210 ≥ 0)))) (fun k => ?_) (Evt.bind' (fun k => rfl) (committed_evt xs (by omega) t) (j2 _ ?_))
      · simp only [cartoucheref10_Nodes.l1]
        rw [if_neg (by omega), if_pos (by trivial)]
      · by_cases h : comOf (evs xs) t = true
        · rw [h]; exact decide_eq_true (cm_neg.2 h)
        · rw [show comOf (evs xs) t = false by simpa using h]
          exact decide_eq_false (fun z => h (cm_neg.1 z))
  | d + 1, i, b, hi, hb, hb2 => by
    cases b
    · have ih := nodes_l1 xs hn acc ha t R hnext d (i + 1) ((nth (evs xs) i).txn == t) (by omega) (fun h => ⟨i, by omega, by simpa using h⟩) (fun h j hj => by
        by_cases e : j = i
        · subst e; simpa using h
        · exact hb2 rfl j (by omega))
      refine Evt.step (fun k => ?_) ih
      simp only [cartoucheref10_Nodes.l1]
      rw [if_pos (by omega), if_neg (by simp), if_pos (by omega), rd_f1, Int.toNat_natCast, wrap_succ (n := xs.length) (by omega) (by omega)]
    · have ih := nodes_l1 xs hn acc ha t R hnext d (i + 1) true (by omega) hb (fun h => by cases h)
      refine Evt.step (fun k => ?_) ih
      simp only [cartoucheref10_Nodes.l1]
      rw [if_pos (by omega), if_pos (by trivial), wrap_succ (n := xs.length) (by omega) (by omega)]
theorem nodes_l0 (xs : List S50) (hn : xs.length ≤ 300) : ∀ (d : Nat) (acc : List Int), d ≤ 301 → acc.length + d ≤ 301 → Evt (fun k => cartoucheref10_Nodes.l0 k xs acc ((300 : Int) - d)) (acc ++ (upTo d).filter (comOf (evs xs)))
  | 0, acc, h, ha => Evt.now1 fun k => by
    simp only [cartoucheref10_Nodes.l0]
    rw [if_neg (by omega)]
    simp [upTo]
  | d + 1, acc, h, ha => by
    have hw : wrap64 ((300 : Int) - (d + 1 : Nat) + 1) = (300 : Int) - d := by unfold wrap64; omega
    rw [show upTo (d + 1) = ((300 : Int) - (d + 1 : Nat)) :: upTo d from rfl, List.filter_cons]
    have hR : acc ++ (if comOf (evs xs) ((300 : Int) - (d + 1 : Nat)) = true then ((300 : Int) - (d + 1 : Nat)) :: (upTo d).filter (comOf (evs xs)) else (upTo d).filter (comOf (evs xs))) = (if comOf (evs xs) ((300 : Int) - (d + 1 : Nat)) = true then acc ++ [((300 : Int) - (d + 1 : Nat))] else acc) ++ (upTo d).filter (comOf (evs xs)) := by
      split <;> simp
    rw [hR]
    have hlen : (if comOf (evs xs) ((300 : Int) - (d + 1 : Nat)) = true then acc ++ [((300 : Int) - (d + 1 : Nat))] else acc).length + d ≤ 301 := by
      split
      · rw [List.length_append]; simp; omega
      · omega
    have hnext := nodes_l0 xs hn d (if comOf (evs xs) ((300 : Int) - (d + 1 : Nat)) = true then acc ++ [((300 : Int) - (d + 1 : Nat))] else acc) (by omega) hlen
    rw [← hw] at hnext
    refine Evt.step (fun k => ?_) (nodes_l1 xs hn acc (by omega) ((300 : Int) - (d + 1 : Nat)) _ hnext xs.length 0 false (by omega) (fun h => by cases h) (fun _ j hj => by omega))
    simp only [cartoucheref10_Nodes.l0]
    rw [if_pos (by omega)]
    rfl
theorem rnodes_evt (xs : List S50) (hn : xs.length ≤ 300) (hT : ∀ i, i < xs.length → -1 ≤ (nth (evs xs) i).txn ∧ (nth (evs xs) i).txn < 300) : Evt (fun k => cartoucheref10_Nodes.f k xs) (nodesS (evs xs)) := by
  have h := nodes_l0 xs hn 301 [] (by omega) (by simp)
  rw [List.nil_append] at h
  have he : (upTo 301).filter (comOf (evs xs)) = nodesS (evs xs) := by
    refine Rg.rising_eq (List.Pairwise.filter _ ?_) (Rg.sortD_rising _) fun x => ?_
    · exact upTo_rising 301
    · rw [List.mem_filter]
      have := mem_nodes (l := evs xs) (t := x)
      unfold nodesS at this
      unfold nodesS
      rw [this]
      refine ⟨fun h => h.2, fun h => ⟨?_, h⟩⟩
      obtain ⟨h1, h2, _⟩ := comOf_end h
      obtain ⟨e, _, hel, het, _⟩ := endOf_place h1
      rw [evs_len] at hel
      obtain ⟨g1, g2⟩ := hT e hel
      rw [het] at g1 g2
      exact (mem_upTo x 301).2 ⟨by omega, by omega⟩
  rw [he] at h
  exact h
end Go.Proofs.YtebjiimlcnmfpaaGreatPr
end
section
section
set_option linter.unusedVariables false
set_option linter.unusedSimpArgs false
namespace Go.Proofs.YtebjiimlcnmfpaaGreatPr
open Go.Proofs.YtebjiimlcnmfpaaGreat
section
open Go Go.RowKit

theorem rde (L : List S24) {i : Nat} (h : i < L.length) : rd_T24 L (i : Int) = L[i] := by
  unfold rd_T24
  rw [Int.toNat_natCast, List.getD_eq_getElem?_getD, List.getElem?_eq_getElem h]; rfl
theorem rfl_l1 (x : Stl) (i : Nat) (hi : i < x.length) (hx : x.length ≤ 140737488351232) (R : List S24) : ∀ (d j : Nat) (acc : List S24), j + d = (sn x i).f2.length → (sn x i).f2.length ≤ 140737488351232 → acc.length + d ≤ 3000000000 →
    Evt (fun k => cartoucheref12_Flat.l0 k x (acc ++ (sn x i).f2.drop j) ((i + 1 : Nat) : Int)) R → Evt (fun k => cartoucheref12_Flat.l1 k x acc (i : Int) (j : Int)) R
  | 0, j, acc, hj, hE, ha, h => by
    rw [List.drop_eq_nil_of_le (by omega), List.append_nil] at h
    refine Evt.step (fun k => ?_) h
    simp only [cartoucheref12_Flat.l1]
    rw [if_pos (by omega), if_pos (by omega), rd_sn, if_neg (by omega), wrap_succ (n := x.length) hi hx]
  | d + 1, j, acc, hj, hE, ha, h => by
    have hjE : j < (sn x i).f2.length := by omega
    have ih := rfl_l1 x i hi hx R d (j + 1) (acc ++ [(sn x i).f2[j]]) (by omega) hE (by simp; omega) (by
      rw [List.append_assoc, List.singleton_append, ← List.drop_eq_getElem_cons hjE]
      exact h)
    refine Evt.step (fun k => ?_) ih
    simp only [cartoucheref12_Flat.l1]
    rw [if_pos (by omega), if_pos (by omega), rd_sn, if_pos (by omega), if_pos (by omega), if_pos (by omega), rde _ hjE, wrap_succ (n := (sn x i).f2.length) hjE hE]
theorem rfl_l0 (x : Stl) (hx : x.length ≤ 1000000) (h2 : ∀ y ∈ x, y.f2.length ≤ 2) : ∀ (d i : Nat) (acc : List S24), i + d = x.length → acc.length ≤ 2 * i →
    Evt (fun k => cartoucheref12_Flat.l0 k x acc (i : Int)) (acc ++ (x.drop i).flatMap (fun s => s.f2))
  | 0, i, acc, hi, ha => Evt.now1 fun k => by
    simp only [cartoucheref12_Flat.l0]
    rw [if_neg (by omega), List.drop_eq_nil_of_le (by omega)]
    simp
  | d + 1, i, acc, hi, ha => by
    have hil : i < x.length := by omega
    have hs : sn x i = x[i] := by unfold sn; rw [List.getD_eq_getElem?_getD, List.getElem?_eq_getElem hil]; rfl
    have hl := h2 _ (List.getElem_mem hil)
    rw [← hs] at hl
    have ih := rfl_l0 x hx h2 d (i + 1) (acc ++ (sn x i).f2) (by omega) (by rw [List.length_append]; omega)
    rw [List.drop_eq_getElem_cons hil, List.flatMap_cons, ← hs, ← List.append_assoc]
    have h1 := rfl_l1 x i hil (by omega) _ (sn x i).f2.length 0 acc (by omega) (by omega) (by omega) (by rw [List.drop_zero]; exact ih)
    refine Evt.step (fun k => ?_) h1
    simp only [cartoucheref12_Flat.l0]
    rw [if_pos (by omega)]
    rfl
theorem rflat_evt (x : Stl) (hx : x.length ≤ 1000000) (h2 : ∀ y ∈ x, y.f2.length ≤ 2) : Evt (fun k => cartoucheref12_Flat.f k x) (x.flatMap (fun s => s.f2)) := by
  have := rfl_l0 x hx h2 x.length 0 [] (by omega) (by simp)
  rw [List.nil_append, List.drop_zero] at this
  exact this
end
end Go.Proofs.YtebjiimlcnmfpaaGreatPr
end
section
set_option linter.unusedVariables false
set_option linter.unusedSimpArgs false
namespace Go.Proofs.YtebjiimlcnmfpaaGreatPr
open Go.Proofs.YtebjiimlcnmfpaaGreat
section
open Go Go.RowKit Go.Proofs Go.Shelf
set_option linter.unusedSimpArgs false
set_option linter.unusedVariables false
attribute [local go_sem] Ext.alloc Ext.alloc2 Ext.alloc3 Ext.alloc4 Ext.drewN_alloc Ext.drewN_alloc2 Ext.drew_alloc Ext.drew Ext.drewN toList_beq

theorem stepsH_len2 (lev : Int) (xs : List S50) (hn : xs.length ≤ 256) : (stepsH lev xs).length ≤ 262656 := by
  have h1 := stepsE_len lev (allE xs)
  have h2 := allE_len2 xs
  have h3 : (allE xs).length * ((allE xs).length + 1) ≤ 512 * 513 := Nat.mul_le_mul (by omega) (by omega)
  unfold stepsH
  omega
theorem rall_f (xs : List S50) (hn : xs.length ≤ 300) (hS : ∀ y ∈ xs, EvS y) : cartoucheref10_All.f xs = some (allE xs) := by
  unfold cartoucheref10_All.f
  rw [if_pos ⟨hn, fun y hy => (hS y hy).2.2.1⟩]
theorem flat_len3 : ∀ r : List S80, (∀ s ∈ r, s.f2.length ≤ 2) → (r.flatMap (fun s => s.f2)).length ≤ 2 * r.length
  | [], _ => by simp
  | s :: r, h => by
    have ih := flat_len3 r (fun y hy => h y (List.mem_cons_of_mem _ hy))
    have h2 := h s List.mem_cons_self
    rw [List.flatMap_cons, List.length_append, List.length_cons]
    omega
set_option maxRecDepth 100000 in
set_option maxHeartbeats 8000000 in
theorem j_rjudge (w : World) (A : Option Addr) (cap : Nat) (l : List S50) (lev : Int) (hC : YtebjiimlcnmfpaaGreatW.PrintWords.Kd.C k50 w A l.length l) (hcap : l.length ≤ cap) (hn : l.length ≤ 140737488351232) (hS : ∀ y ∈ l, EvS y) :
    Calls Tryz.prog 44 #[.slice A l.length cap, .int .i64 lev] w (JOut w (jS l lev)) := by
  obtain ⟨r, hr⟩ : ∃ r, jS l lev = r := ⟨_, rfl⟩
  have HR := hid hr
  rw [hr]
  obtain ⟨f1, hf1⟩ : ∃ f, (formed (evs l)).1 = f := ⟨_, rfl⟩
  obtain ⟨f2, hf2⟩ : ∃ f, (formed (evs l)).2 = f := ⟨_, rfl⟩
  have hF : Hid (cartoucheref08_Formed.f l = some (f1, f2)) := hid (by unfold cartoucheref08_Formed.f; rw [if_pos (by omega), ← hf1, ← hf2])
  have HF2 := hid hf2
  have HSS := hid hS
  clear hr hf1 hf2 hS
  go_enter Tryz.func44, Tryz.ntmps44
  go_upto_region 1 with (fail)
  have hP4 := Blk.new w 42 #[.int .i64 0, .bool false, .slice none 0 0, .int .i64 0, .int .i64 0, .int .i64 0, .slice none 0 0]
  have hX0 := (Ext.refl w).alloc (.cells #[.int .i64 0, .bool false, .slice none 0 0, .int .i64 0, .int .i64 0, .int .i64 0, .slice none 0 0] 42)
  obtain ⟨W0, hW0⟩ : ∃ W, w.alloc (.cells #[.int .i64 0, .bool false, .slice none 0 0, .int .i64 0, .int .i64 0, .int .i64 0, .slice none 0 0] 42) = W := ⟨_, rfl⟩
  rw [hW0] at hP4 hX0 ⊢
  clear hW0
  have HC0 := hid (C_go hC hX0)
  have P4 := hid hP4
  clear hC hP4
  by_cases hlev : 1 ≤ lev ∧ lev ≤ 2
  case neg =>
    have hR2 : r = (0, false, [], 0, 0, 0, [], 1) := by rw [← HR.out]; unfold jS; rw [if_pos (by omega)]
    subst hR2
    obtain ⟨⟨x0, x1, x2, x3, x4, x5, x6⟩, fx0, fx1, fx2, fx3, fx4, fx5, fx6⟩ := Blk.all7 P4.out
    have hQ := P4.out
    have h1 : (lev != 1) = true := bne_iff_ne.mpr (by omega)
    have h2 : (lev != 2) = true := bne_iff_ne.mpr (by omega)
    clear hlev HR
    go_wp2
    refine bodyPost_ret (YtebjiimlcnmfpaaGreatW.PrintWords.results_ct rfl _ _ w.heap.size 42 #[.int .i64 0, .bool false, .slice none 0 0, .int .i64 0, .int .i64 0, .int .i64 0, .slice none 0 0] (0, 0) _ rfl (show Blk _ _ _ _ from Blk.put7 hQ _ _ _ _ _ _ _) Tryz.underlying42 rfl (by kernel_rfl)) rfl ?_
    exact ⟨_, _, rfl, YtebjiimlcnmfpaaGreatW.PrintWords.Kd.R_nil _ _ _ _ _, YtebjiimlcnmfpaaGreatW.PrintWords.Kd.R_nil _ _ _ _ _, put7_ext hX0 (Nat.le_refl _) _ _ _ _ _ _ _⟩
  have hl2 : lev = 1 ∨ lev = 2 := by omega
  have HN := hid hlev
  clear hlev
  by_cases hf : f2 = 0
  case neg =>
    have hz : (f2 != 0) = true := bne_iff_ne.mpr hf
    have hR2 : r = (0, false, [], 0, 0, 0, [], f2) := by rw [← HR.out]; unfold jS; rw [if_neg (by have := HN.out; omega), if_neg (by rw [HF2.out]; exact hf), HF2.out]
    subst hR2
    clear hf HR HN
    rcases hl2 with rfl | rfl
    all_goals
      go_wp2_with (go_at_call 32; (with_reducible refine (cartoucheref08_Formed.calls A cap l _ _ _ HC0.out hcap hF.out).mono ?_); rintro e1 w1 ⟨rfl, hx1⟩; have hY1 : Ext W0 w1 := hx1; have C1 := hid (C_go HC0.out hY1); obtain ⟨⟨x0, x1, x2, x3, x4, x5, x6⟩, fx0, fx1, fx2, fx3, fx4, fx5, fx6⟩ := Blk.all7 (P4.out.ext hY1))
      have hQ := P4.out.ext hY1
      refine bodyPost_ret (YtebjiimlcnmfpaaGreatW.PrintWords.results_ct rfl _ _ w.heap.size 42 #[.int .i64 0, .bool false, .slice none 0 0, .int .i64 0, .int .i64 0, .int .i64 0, .slice none 0 0] (0, 0) _ rfl (show Blk _ _ _ _ from Blk.put7 hQ _ _ _ _ _ _ _) Tryz.underlying42 rfl (by kernel_rfl)) rfl ?_
      exact ⟨_, _, rfl, YtebjiimlcnmfpaaGreatW.PrintWords.Kd.R_nil _ _ _ _ _, YtebjiimlcnmfpaaGreatW.PrintWords.Kd.R_nil _ _ _ _ _, put7_ext (hX0.trans hY1) (Nat.le_refl _) _ _ _ _ _ _ _⟩
  subst hf
  have hn9 : l.length ≤ 256 := by have := (formed_wf HF2.out).len; rwa [evs_len] at this
  have hR1 := hid (show r = jokS l lev from by rw [← HR.out]; unfold jS; rw [if_neg (by have := HN.out; omega), if_pos HF2.out])
  obtain ⟨kt, hkt⟩ := (bads_evt l (by omega)).rounds
  clear HR
  cases hb : badsS l with
  | cons b rest =>
    have hR2 : r = (lev, false, [], b.f0, b.f1, b.f2, [], 0) := by rw [hR1.out]; unfold jokS; rw [hb]
    subst hR2
    rw [hb] at hkt
    obtain ⟨L, hL⟩ : ∃ x, b :: rest = x := ⟨_, rfl⟩
    have hp : Hid (0 < L.length) := hid (by rw [← hL]; simp)
    have hp2 := hp.out
    have hb0 : Hid (rd_T40 L 0 = b) := hid (by rw [← hL]; rfl)
    rw [hL] at hkt
    have hT := hid (show cartoucheref09_All.f kt l = some L from hkt)
    clear hkt hb hR1 HN hL
    rcases hl2 with rfl | rfl
    all_goals
      go_wp2_with first
        | (go_at_call 32; (with_reducible refine (cartoucheref08_Formed.calls A cap l _ _ _ HC0.out hcap hF.out).mono ?_); rintro e1 w1 ⟨rfl, hx1⟩; have hY1 : Ext W0 w1 := hx1; have C1 := hid (C_go HC0.out hY1))
        | (go_at_call 68; go_loud ((with_reducible refine (cartoucheref09_All.calls kt A cap l L _ C1.out hcap hT.out).mono ?_); rintro e2 w2 ⟨v2, rfl, hR2, hx2⟩; have hY2 : Ext W0 w2 := hY1.trans hx2; have C2 := hid (C_go HC0.out hY2); obtain ⟨A2, c2, rfl, hc2, hC2⟩ := YtebjiimlcnmfpaaGreatW.PrintWords.Kd.N_reads (YtebjiimlcnmfpaaGreatW.PrintWords.Kd.R_N hR2); clear hR2; obtain ⟨ad, rfl, hb1, hb2, hb3⟩ := at_T40 hC2 0 (by omega) (by have := hp.out; omega); rw [hb0.out] at hb1 hb2 hb3; rw [show ((0 : Int)).toNat = 0 from rfl, show 0 * 3 = 0 from rfl, Addr.add_zero'] at hb1 hb2 hb3; have qi : (0 < L.length) = True := eq_true hp.out; have qj : (0 < (L.length : Int)) = True := eq_true (by have := hp.out; omega); clear hC2; obtain ⟨⟨x0, x1, x2, x3, x4, x5, x6⟩, fx0, fx1, fx2, fx3, fx4, fx5, fx6⟩ := Blk.all7 (P4.out.ext hY2)))
      have hQ := P4.out.ext hY2
      refine bodyPost_ret (YtebjiimlcnmfpaaGreatW.PrintWords.results_ct rfl _ _ w.heap.size 42 #[.int .i64 _, .bool false, .slice none 0 0, .int .i64 b.f0, .int .i64 b.f1, .int .i64 b.f2, .slice none 0 0] (0, 0) _ rfl (show Blk _ _ _ _ from Blk.put7 hQ _ _ _ _ _ _ _) Tryz.underlying42 rfl (by kernel_rfl)) rfl ?_
      exact ⟨_, _, rfl, YtebjiimlcnmfpaaGreatW.PrintWords.Kd.R_nil _ _ _ _ _, YtebjiimlcnmfpaaGreatW.PrintWords.Kd.R_nil _ _ _ _ _, put7_ext (hX0.trans hY2) (Nat.le_refl _) _ _ _ _ _ _ _⟩
  | nil =>
    rw [hb] at hkt
    have hT := hid (show cartoucheref09_All.f kt l = some [] from hkt)
    have hAl := allE_len2 l
    obtain ⟨al, hal⟩ : ∃ x, allE l = x := ⟨_, rfl⟩
    have hA : Hid (cartoucheref10_All.f l = some al) := hid (by rw [← hal]; exact rall_f l (by omega) HSS.out)
    have hSt : Hid (cartoucheref10_Steps.f lev al = some (stepsH lev l)) := hid (by
      rw [← hal]
      unfold cartoucheref10_Steps.f
      rw [if_pos (by have := Nat.mul_le_mul (show (allE l).length ≤ 600 by omega) (show (allE l).length + 1 ≤ 601 by omega); omega)]
      rfl)
    obtain ⟨kn, hkn⟩ := (rnodes_evt l (by omega) (fun i hi => by have := wf_txn (formed_wf HF2.out) (i := i) (by rw [evs_len]; exact hi); omega)).rounds
    have hNo := hid hkn
    have hsl := stepsH_len2 lev l hn9
    have hnl := nodesS_len (evs l)
    rw [evs_len] at hnl
    have hOr : Hid (cartoucheref11_Order.f (nodesS (evs l)) (stepsH lev l) = some ((Rg.order fr_ to_ (stepsH lev l) (nodesS (evs l))).getD [], (Rg.order fr_ to_ (stepsH lev l) (nodesS (evs l))).isSome)) := hid (by
      unfold cartoucheref11_Order.f
      rw [if_pos ⟨by omega, by omega⟩])
    obtain ⟨kr, hkr⟩ := (ring_evt (stepsH lev l) (by omega)).rounds
    have hRi : Hid (cartoucheref11_Ring.f kr (stepsH lev l) = some ((Rg.ring fr_ to_ (stepsH lev l)).1, (Rg.ring fr_ to_ (stepsH lev l)).2)) := hid hkr
    obtain ⟨kf, hkf⟩ := (rflat_evt (Rg.ring fr_ to_ (stepsH lev l)).1 (by have := ring_len_le (stepsH lev l); omega) (fun y hy => stepsH_two (Rg.ring_mem fr_ to_ (stepsH lev l) y hy))).rounds
    have hFl := hid hkf
    have hR2 : Hid (r = match Rg.order fr_ to_ (stepsH lev l) (nodesS (evs l)) with
      | some o => (lev, true, o, 0, 0, 0, [], 0)
      | none => (lev, false, [], 0, 0, 0, (Rg.ring fr_ to_ (stepsH lev l)).1.flatMap (fun s => s.f2), 0)) := hid (by rw [hR1.out]; unfold jokS; rw [hb]; rfl)
    clear hkt hkn hkr hkf hb hR1 HN hal
    obtain ⟨rg, hrg⟩ : ∃ x, (Rg.ring fr_ to_ (stepsH lev l)).1 = x := ⟨_, rfl⟩
    rw [hrg] at hRi hFl hR2
    obtain ⟨fl, hfl⟩ : ∃ x, rg.flatMap (fun s => s.f2) = x := ⟨_, rfl⟩
    rw [hfl] at hFl hR2
    clear hrg hfl
    generalize (Rg.ring fr_ to_ (stepsH lev l)).2 = rb at *
    generalize Rg.order fr_ to_ (stepsH lev l) (nodesS (evs l)) = od at *
    generalize stepsH lev l = st at *
    generalize nodesS (evs l) = ns at *
    clear hAl hsl hnl
    cases od with
    | some o =>
      have hR3 : r = (lev, true, o, 0, 0, 0, [], 0) := hR2.out
      subst hR3
      have hOr := hid (show cartoucheref11_Order.f ns st = some (o, true) from hOr.out)
      clear hR2 hRi hFl
      rcases hl2 with rfl | rfl
      all_goals
        go_wp2_with first
          | (go_at_call 32; (with_reducible refine (cartoucheref08_Formed.calls A cap l _ _ _ HC0.out hcap hF.out).mono ?_); rintro e1 w1 ⟨rfl, hx1⟩; have hY1 : Ext W0 w1 := hx1; have C1 := hid (C_go HC0.out hY1))
          | (go_at_call 68; (with_reducible refine (cartoucheref09_All.calls kt A cap l [] _ C1.out hcap hT.out).mono ?_); rintro e2 w2 ⟨v2, rfl, hR2, hx2⟩; have hY2 : Ext W0 w2 := hY1.trans hx2; have C2 := hid (C_go HC0.out hY2); obtain ⟨A2, c2, rfl, hc2, hC2⟩ := YtebjiimlcnmfpaaGreatW.PrintWords.Kd.N_reads (YtebjiimlcnmfpaaGreatW.PrintWords.Kd.R_N hR2); clear hR2; clear hC2)
          | (go_at_call 22; (with_reducible refine (cartoucheref10_All.calls A cap l al _ C2.out hcap hA.out).mono ?_); rintro e3 w3 ⟨v3, rfl, hR3, hx3⟩; have hY3 : Ext W0 w3 := hY2.trans hx3; obtain ⟨A3, c3, rfl, hc3, hC3⟩ := YtebjiimlcnmfpaaGreatW.PrintWords.Kd.N_reads (YtebjiimlcnmfpaaGreatW.PrintWords.Kd.R_N hR3); have D3 := hid hC3; clear hR3 hC3)
          | (go_at_call 69; (with_reducible refine (cartoucheref10_Steps.calls _ A3 c3 al st _ D3.out hc3 hSt.out).mono ?_); rintro e4 w4 ⟨v4, rfl, hN4, hx4⟩; have hY4 : Ext W0 w4 := hY3.trans hx4; obtain ⟨A4, c4, rfl, hc4, hC4⟩ := YtebjiimlcnmfpaaGreatW.PrintWords.Kd.N_reads hN4; have D4 := hid hC4; have N4 := hid hN4; have C4 := hid (C_go HC0.out hY4); clear hN4 hC4)
          | (go_at_call 25; (with_reducible refine (cartoucheref10_Nodes.calls kn A cap l ns _ C4.out hcap hNo.out).mono ?_); rintro e5 w5 ⟨v5, rfl, hR5, hx5⟩; have hY5 : Ext W0 w5 := hY4.trans hx5; obtain ⟨A5, c5, rfl, hc5, hC5⟩ := YtebjiimlcnmfpaaGreatW.PrintWords.Kd.N_reads (YtebjiimlcnmfpaaGreatW.PrintWords.Kd.R_N hR5); have D5 := hid hC5; have E4 := hid (C_go D4.out hx5); have hX45 := hid hx5; clear hR5 hC5)
          | (go_at_call 80; (with_reducible refine (cartoucheref11_Order.calls A5 c5 ns A4 c4 st _ _ _ D5.out hc5 E4.out hc4 hOr.out).mono ?_); rintro e6 w6 ⟨v6, rfl, hR6, hx6⟩; have hY6 : Ext W0 w6 := hY5.trans hx6; obtain ⟨A6, c6, rfl, _, _⟩ := YtebjiimlcnmfpaaGreatW.PrintWords.Kd.N_reads (YtebjiimlcnmfpaaGreatW.PrintWords.Kd.R_N hR6); have R6 := hid hR6; clear hR6; obtain ⟨⟨x0, x1, x2, x3, x4, x5, x6⟩, fx0, fx1, fx2, fx3, fx4, fx5, fx6⟩ := Blk.all7 (P4.out.ext hY6))
        have hQ := P4.out.ext hY6
        have hk : ∀ k, w5.heap.size ≤ k → k ≠ w.heap.size := fun k hk => by
          have h1 := (P4.out.ext hY5).lt
          omega
        refine bodyPost_ret (YtebjiimlcnmfpaaGreatW.PrintWords.results_ct rfl _ _ w.heap.size 42 #[.int .i64 _, .bool true, .slice A6 o.length c6, .int .i64 0, .int .i64 0, .int .i64 0, .slice none 0 0] (0, 0) _ rfl (show Blk _ _ _ _ from Blk.put7 hQ _ _ _ _ _ _ _) Tryz.underlying42 rfl (by kernel_rfl)) rfl ?_
        exact ⟨_, _, rfl, R_elder R6.out (hX0.trans hY5).le (fun k h => put7_other (hk k h) _ _ _ _ _ _ _), YtebjiimlcnmfpaaGreatW.PrintWords.Kd.R_nil _ _ _ _ _, put7_ext (hX0.trans hY6) (Nat.le_refl _) _ _ _ _ _ _ _⟩
    | none =>
      have hR3 : r = (lev, false, [], 0, 0, 0, fl, 0) := hR2.out
      subst hR3
      have hOr := hid (show cartoucheref11_Order.f ns st = some ([], false) from hOr.out)
      clear hR2
      rcases hl2 with rfl | rfl
      all_goals
        go_wp2_with first
          | (go_at_call 32; (with_reducible refine (cartoucheref08_Formed.calls A cap l _ _ _ HC0.out hcap hF.out).mono ?_); rintro e1 w1 ⟨rfl, hx1⟩; have hY1 : Ext W0 w1 := hx1; have C1 := hid (C_go HC0.out hY1))
          | (go_at_call 68; (with_reducible refine (cartoucheref09_All.calls kt A cap l [] _ C1.out hcap hT.out).mono ?_); rintro e2 w2 ⟨v2, rfl, hR2, hx2⟩; have hY2 : Ext W0 w2 := hY1.trans hx2; have C2 := hid (C_go HC0.out hY2); obtain ⟨A2, c2, rfl, hc2, hC2⟩ := YtebjiimlcnmfpaaGreatW.PrintWords.Kd.N_reads (YtebjiimlcnmfpaaGreatW.PrintWords.Kd.R_N hR2); clear hR2; clear hC2)
          | (go_at_call 22; (with_reducible refine (cartoucheref10_All.calls A cap l al _ C2.out hcap hA.out).mono ?_); rintro e3 w3 ⟨v3, rfl, hR3, hx3⟩; have hY3 : Ext W0 w3 := hY2.trans hx3; obtain ⟨A3, c3, rfl, hc3, hC3⟩ := YtebjiimlcnmfpaaGreatW.PrintWords.Kd.N_reads (YtebjiimlcnmfpaaGreatW.PrintWords.Kd.R_N hR3); have D3 := hid hC3; clear hR3 hC3)
          | (go_at_call 69; (with_reducible refine (cartoucheref10_Steps.calls _ A3 c3 al st _ D3.out hc3 hSt.out).mono ?_); rintro e4 w4 ⟨v4, rfl, hN4, hx4⟩; have hY4 : Ext W0 w4 := hY3.trans hx4; obtain ⟨A4, c4, rfl, hc4, hC4⟩ := YtebjiimlcnmfpaaGreatW.PrintWords.Kd.N_reads hN4; have D4 := hid hC4; have N4 := hid hN4; have C4 := hid (C_go HC0.out hY4); clear hN4 hC4)
          | (go_at_call 25; (with_reducible refine (cartoucheref10_Nodes.calls kn A cap l ns _ C4.out hcap hNo.out).mono ?_); rintro e5 w5 ⟨v5, rfl, hR5, hx5⟩; have hY5 : Ext W0 w5 := hY4.trans hx5; obtain ⟨A5, c5, rfl, hc5, hC5⟩ := YtebjiimlcnmfpaaGreatW.PrintWords.Kd.N_reads (YtebjiimlcnmfpaaGreatW.PrintWords.Kd.R_N hR5); have D5 := hid hC5; have E4 := hid (C_go D4.out hx5); have hX45 := hid hx5; clear hR5 hC5)
          | (go_at_call 80; (with_reducible refine (cartoucheref11_Order.calls A5 c5 ns A4 c4 st _ _ _ D5.out hc5 E4.out hc4 hOr.out).mono ?_); rintro e6 w6 ⟨v6, rfl, hR6, hx6⟩; have hY6 : Ext W0 w6 := hY5.trans hx6; obtain ⟨A6, c6, rfl, _, _⟩ := YtebjiimlcnmfpaaGreatW.PrintWords.Kd.N_reads (YtebjiimlcnmfpaaGreatW.PrintWords.Kd.R_N hR6); have R6 := hid hR6; clear hR6)
          | (go_at_call 81; (refine (cartoucheref11_Ring.calls kr _ A4 c4 st _ _ w6 (YtebjiimlcnmfpaaGreatW.PrintWords.Kd.N_V (YtebjiimlcnmfpaaGreatW.PrintWords.Kd.N_below N4.out (Ext.trans hX45.out hx6))) hRi.out).mono ?_); rintro e7 w7 ⟨v7, rfl, hN7, hx7⟩; have hY7 : Ext W0 w7 := hY6.trans hx7; obtain ⟨A7, c7, rfl, hc7, hC7⟩ := YtebjiimlcnmfpaaGreatW.PrintWords.Kd.N_reads hN7; have D7 := hid hC7; clear hN7 hC7)
          | (go_at_call 30; (with_reducible refine (cartoucheref12_Flat.calls kf A7 c7 rg fl _ D7.out hc7 hFl.out).mono ?_); rintro e8 w8 ⟨v8, rfl, hR8, hx8⟩; have hY8 : Ext W0 w8 := hY7.trans hx8; obtain ⟨A8, c8, rfl, _, _⟩ := YtebjiimlcnmfpaaGreatW.PrintWords.Kd.N_reads (YtebjiimlcnmfpaaGreatW.PrintWords.Kd.R_N hR8); have R8 := hid hR8; clear hR8; obtain ⟨⟨x0, x1, x2, x3, x4, x5, x6⟩, fx0, fx1, fx2, fx3, fx4, fx5, fx6⟩ := Blk.all7 (P4.out.ext hY8))
        have hQ := P4.out.ext hY8
        have hk : ∀ k, w7.heap.size ≤ k → k ≠ w.heap.size := fun k hk => by
          have h1 := (P4.out.ext hY7).lt
          omega
        refine bodyPost_ret (YtebjiimlcnmfpaaGreatW.PrintWords.results_ct rfl _ _ w.heap.size 42 #[.int .i64 _, .bool false, .slice none 0 0, .int .i64 0, .int .i64 0, .int .i64 0, .slice A8 fl.length c8] (0, 0) _ rfl (show Blk _ _ _ _ from Blk.put7 hQ _ _ _ _ _ _ _) Tryz.underlying42 rfl (by kernel_rfl)) rfl ?_
        exact ⟨_, _, rfl, YtebjiimlcnmfpaaGreatW.PrintWords.Kd.R_nil _ _ _ _ _, R_elder R8.out (hX0.trans hY7).le (fun k h => put7_other (hk k h) _ _ _ _ _ _ _), put7_ext (hX0.trans hY8) (Nat.le_refl _) _ _ _ _ _ _ _⟩
def cartoucheref12_Judge.f (l0 : List (S50)) (a1 : Int) : Option (Int × Bool × List Int × Int × Int × Int × (List (S24)) × Int) := if l0.length ≤ 140737488351232 ∧ evsOk l0 = true then some (jS l0 a1) else none
theorem cartoucheref12_Judge.calls (A0 : Option Addr) (c0 : Nat) (l0 : List (S50)) (a1 : Int) (r1 : Int) (r2 : Bool) (r3 : List Int) (r4 : Int) (r5 : Int) (r6 : Int) (r7 : List (S24)) (r8 : Int) (w : World) (hr0 : YtebjiimlcnmfpaaGreatW.PrintWords.Kd.C k50 w A0 l0.length l0) (hc0 : l0.length ≤ c0) (h : cartoucheref12_Judge.f l0 a1 = some (r1, r2, r3, r4, r5, r6, r7, r8)) :
    Calls Tryz.prog 44 #[.slice A0 l0.length c0, .int .i64 a1] w fun e w' => ∃ v2_ v6_ : Value, e = .returned (.tuple #[.agg #[.int .i64 r1, .bool r2, v2_, .int .i64 r4, .int .i64 r5, .int .i64 r6, v6_], .int .i64 r8]) ∧ YtebjiimlcnmfpaaGreatW.PrintWords.Kd.R (YtebjiimlcnmfpaaGreatW.PrintWords.Kd.int .i64) 3 w' w.heap.size (fun _ => True) v2_ r3 ∧ YtebjiimlcnmfpaaGreatW.PrintWords.Kd.R k24 24 w' w.heap.size (fun _ => True) v6_ r7 ∧ Below w.heap.size w w' := by
  unfold cartoucheref12_Judge.f at h
  split at h
  · rename_i hn
    injection h with h
    have := j_rjudge w A0 c0 l0 a1 hr0 hc0 hn.1 (evsOk_iff.1 hn.2)
    rw [h] at this
    exact this
  · cases h
theorem rjudge_f {xs : List S50} {lev : Int} (hn : xs.length ≤ 140737488351232) (hS : ∀ y ∈ xs, EvS y) : cartoucheref12_Judge.f xs lev = some (jS xs lev) := by
  unfold cartoucheref12_Judge.f
  rw [if_pos ⟨hn, evsOk_iff.2 hS⟩]
end
end Go.Proofs.YtebjiimlcnmfpaaGreatPr
end
end
end
