/-
  The plain law of HistoryVersions: in a well formed history a key's versions are the last writes of it by the committed transactions that wrote it, in the order of their ends.
-/
import Derived.Test.YthjgmccpbcelgaaPr47
import Derived.Test.YthjgmccpbcelgaaS08
import Derived.Test.YthjgmccpbcelgaaC1
set_option linter.unusedVariables false
set_option linter.unusedSimpArgs false
namespace Go.Proofs.YthjgmccpbcelgaaPr
open Go.Proofs.Ythjgmccpbcelgaa
open Go Go.RowKit YthjgmccpbcelgaaW.PrintWords

theorem fm_if {α β : Type} (c : α → Bool) (g : α → β) : ∀ l : List α, l.filterMap (fun i => if c i = true then some (g i) else none) = (l.filter c).map g
  | [] => rfl
  | x :: r => by
    rw [List.filterMap_cons, List.filter_cons]
    cases h : c x <;> simp [fm_if c g r]
/-- The commits of those that wrote a key. -/
def vcs (l : List Go.Proofs.Ythjgmccpbcelgaa.Ev) (key : ByteArray) : List Nat := (List.range l.length).filter fun i => comAt l i && decide (0 ≤ lastOf l (nth l i).txn key i)
theorem versions_vcs (l : List Go.Proofs.Ythjgmccpbcelgaa.Ev) (key : ByteArray) : versions l key = (vcs l key).map fun i => lastOf l (nth l i).txn key i := by
  unfold versions vcs
  rw [← fm_if]
  refine fm_congr fun i _ => ?_
  unfold verAt comAt
  by_cases h : (nth l i).kind = 4 ∧ endOf l (nth l i).txn = i ∧ 0 ≤ lastOf l (nth l i).txn key i
  · rw [if_pos h, if_pos (by simp [h.1, h.2.1, h.2.2])]
  · rw [if_neg h, if_neg (by simp; intro a b; have := fun c => h ⟨a, b, c⟩; omega)]
theorem vcs_len (l : List Go.Proofs.Ythjgmccpbcelgaa.Ev) (key : ByteArray) : (vcs l key).length ≤ l.length := by
  have := List.length_filter_le (fun i => comAt l i && decide (0 ≤ lastOf l (nth l i).txn key i)) (List.range l.length)
  rwa [List.length_range] at this
theorem vcs_at {l : List Go.Proofs.Ythjgmccpbcelgaa.Ev} {key : ByteArray} {i : Nat} (h : i ∈ vcs l key) : i ∈ coms l ∧ ∃ v : Nat, lastOf l (nth l i).txn key i = v ∧ v < i ∧ v < l.length ∧ (nth l v).kind = 3 ∧ (nth l v).txn = (nth l i).txn ∧ (nth l v).key = key := by
  have h1 := List.mem_filter.1 h
  have h2 : comAt l i = true ∧ 0 ≤ lastOf l (nth l i).txn key i := by simpa using h1.2
  refine ⟨List.mem_filter.2 ⟨h1.1, h2.1⟩, ?_⟩
  have h3 := h2.2
  unfold lastOf at h3 ⊢
  rcases last_nth (wroteBy (nth l i).txn key) l (i : Int).toNat with ⟨e, _⟩ | ⟨v, a1, a2, a3, a4, _⟩
  · rw [e] at h3; omega
  · have a5 : (nth l v).kind = 3 ∧ (nth l v).txn = (nth l i).txn ∧ (nth l v).key = key := by simpa [wroteBy] using a4
    exact ⟨v, a3, by omega, a1, a5.1, a5.2.1, a5.2.2⟩
theorem vcs_sorted (l : List Go.Proofs.Ythjgmccpbcelgaa.Ev) (key : ByteArray) : (vcs l key).Pairwise (· < ·) := (List.pairwise_lt_range).filter _
theorem rd_vs (l : List Go.Proofs.Ythjgmccpbcelgaa.Ev) (key : ByteArray) {q : Nat} (hq : q < (vcs l key).length) : rd (versions l key) (q : Int) = lastOf l (nth l ((vcs l key)[q])).txn key ((vcs l key)[q] : Nat) := by
  unfold rd
  rw [versions_vcs, List.getD_eq_getElem?_getD, List.getElem?_map, Int.toNat_natCast, List.getElem?_eq_getElem hq]
  rfl

section
variable (xs : List S31) (hn : xs.length ≤ 300) (key : ByteArray)
include hn

theorem vers_l2t (i : Nat) (hl1 : Evt (fun k => cartouchelaw08_HistoryVersions.l1 k xs key true (versions (evs xs) key) ((i + 1 : Nat) : Int)) true) (hi : i < xs.length) : ∀ (d q : Nat), q + d = (vcs (evs xs) key).length → Evt (fun k => cartouchelaw08_HistoryVersions.l2 k xs key true (versions (evs xs) key) (i : Int) true (q : Int)) true
  | 0, q, hq => by
    have hvl : (versions (evs xs) key).length = (vcs (evs xs) key).length := by rw [versions_vcs, List.length_map]
    refine Evt.step (fun k => ?_) hl1
    simp only [cartouchelaw08_HistoryVersions.l2]
    rw [if_neg (by omega), if_pos (by trivial), wrap_succ (n := xs.length) (by omega) (by omega)]
  | d + 1, q, hq => by
    have hvl : (versions (evs xs) key).length = (vcs (evs xs) key).length := by rw [versions_vcs, List.length_map]
    have hcl : (vcs (evs xs) key).length ≤ xs.length := by have := vcs_len (evs xs) key; rwa [evs_len] at this
    refine Evt.step (fun k => ?_) (vers_l2t i hl1 hi d (q + 1) (by omega))
    simp only [cartouchelaw08_HistoryVersions.l2]
    rw [if_pos (by omega), if_pos (by trivial), wrap_succ (n := (vcs (evs xs) key).length) (by omega) (by omega)]

theorem vers_l2f (i : Nat) (hl1 : Evt (fun k => cartouchelaw08_HistoryVersions.l1 k xs key true (versions (evs xs) key) ((i + 1 : Nat) : Int)) true) (hi : i < xs.length) (q0 : Nat) (hq0 : q0 < (vcs (evs xs) key).length)
    (h1 : (nth (evs xs) ((vcs (evs xs) key)[q0])).txn = (nth (evs xs) i).txn) (h2 : (i : Int) ≤ lastOf (evs xs) (nth (evs xs) ((vcs (evs xs) key)[q0])).txn key ((vcs (evs xs) key)[q0] : Nat)) :
    ∀ (d q : Nat), q + d = q0 → Evt (fun k => cartouchelaw08_HistoryVersions.l2 k xs key true (versions (evs xs) key) (i : Int) false (q : Int)) true := by
  have hvl : (versions (evs xs) key).length = (vcs (evs xs) key).length := by rw [versions_vcs, List.length_map]
  have hcl : (vcs (evs xs) key).length ≤ xs.length := by have := vcs_len (evs xs) key; rwa [evs_len] at this
  have hlen := evs_len xs
  have body : ∀ (q : Nat), q < (vcs (evs xs) key).length → ∀ (b : Bool), (∀ k, cartouchelaw08_HistoryVersions.l2 (k + 1) xs key true (versions (evs xs) key) (i : Int) false (q : Int) = cartouchelaw08_HistoryVersions.l2 k xs key true (versions (evs xs) key) (i : Int) b ((q + 1 : Nat) : Int)) ∨ b ≠ (if (nth (evs xs) ((vcs (evs xs) key)[q]!)).txn = (nth (evs xs) i).txn then decide ((i : Int) ≤ lastOf (evs xs) (nth (evs xs) ((vcs (evs xs) key)[q]!)).txn key ((vcs (evs xs) key)[q]! : Nat)) else false) := by
    intro q hq b
    by_cases hb : b = (if (nth (evs xs) ((vcs (evs xs) key)[q]!)).txn = (nth (evs xs) i).txn then decide ((i : Int) ≤ lastOf (evs xs) (nth (evs xs) ((vcs (evs xs) key)[q]!)).txn key ((vcs (evs xs) key)[q]! : Nat)) else false)
    · refine .inl fun k => ?_
      rw [getElem!_pos _ q hq] at hb
      obtain ⟨_, v, a1, a2, a3, a4, a5, a6⟩ := vcs_at (List.getElem_mem hq)
      have hr := rd_vs (evs xs) key hq
      rw [a1] at hr hb
      simp only [cartouchelaw08_HistoryVersions.l2]
      rw [if_pos (by omega), if_neg (by simp), if_pos (by omega), hr, if_pos (by omega), if_pos (by omega), if_pos (by omega), if_pos (by omega), rd_f1, rd_f1, wrap_succ (n := (vcs (evs xs) key).length) (by omega) (by omega)]
      have ce : (nth (evs xs) ((v : Int)).toNat).txn = (nth (evs xs) ((i : Int)).toNat).txn ↔ (nth (evs xs) ((vcs (evs xs) key)[q])).txn = (nth (evs xs) i).txn := by simp only [Int.toNat_natCast]; rw [a5]
      by_cases c : (nth (evs xs) ((vcs (evs xs) key)[q])).txn = (nth (evs xs) i).txn
      · rw [if_pos c] at hb
        rw [if_pos (ce.2 c), hb]
      · rw [if_neg c] at hb
        rw [if_neg (fun z => c (ce.1 z)), hb]
    · exact .inr hb
  intro d
  induction d with
  | zero =>
    intro q hq
    obtain rfl : q = q0 := by omega
    rcases body q hq0 true with h | h
    · exact Evt.step h (vers_l2t xs hn key i hl1 hi ((vcs (evs xs) key).length - (q + 1)) (q + 1) (by omega))
    · rw [getElem!_pos _ q hq0, if_pos h1, decide_eq_true h2] at h
      exact absurd rfl h
  | succ d ih =>
    intro q hq
    rcases body q (by omega) true with h | h
    · exact Evt.step h (vers_l2t xs hn key i hl1 hi ((vcs (evs xs) key).length - (q + 1)) (q + 1) (by omega))
    · rcases body q (by omega) false with h' | h'
      · exact Evt.step h' (ih (q + 1) (by omega))
      · exfalso
        cases hc : (if (nth (evs xs) ((vcs (evs xs) key)[q]!)).txn = (nth (evs xs) i).txn then decide ((i : Int) ≤ lastOf (evs xs) (nth (evs xs) ((vcs (evs xs) key)[q]!)).txn key ((vcs (evs xs) key)[q]! : Nat)) else false)
        · rw [hc] at h'; exact h' rfl
        · rw [hc] at h; exact h rfl

theorem vers_l1 (hw : Wf (evs xs)) : ∀ (d i : Nat), i + d = xs.length → Evt (fun k => cartouchelaw08_HistoryVersions.l1 k xs key true (versions (evs xs) key) (i : Int)) true
  | 0, i, hi => Evt.now1 fun k => by
    simp only [cartouchelaw08_HistoryVersions.l1]
    rw [if_neg (by omega)]
  | d + 1, i, hi => by
    have ih := vers_l1 hw d (i + 1) (by omega)
    have hlen := evs_len xs
    have hi' : i < (evs xs).length := by omega
    obtain ⟨_, _, a2, _⟩ := findL_of hi'
    have j4t : Evt (fun k => cartouchelaw08_HistoryVersions.j4 k xs key true (versions (evs xs) key) (i : Int) true) true := by
      refine Evt.step (fun k => ?_) ih
      simp only [cartouchelaw08_HistoryVersions.j4]
      rw [if_pos (by trivial), wrap_succ (n := xs.length) (by omega) (by omega)]
    have e : ∀ k, cartouchelaw08_HistoryVersions.l1 (k + 1) xs key true (versions (evs xs) key) (i : Int) = cartouchelaw08_HistoryVersions.j4 k xs key true (versions (evs xs) key) (i : Int) (if (nth (evs xs) i).kind = 3 ∧ (nth (evs xs) i).key = key then !(comOf (evs xs) (nth (evs xs) i).txn) else true) := fun k => by
      simp only [cartouchelaw08_HistoryVersions.l1]
      unfold history_Find.f
      rw [if_pos (by omega), if_pos (by omega), if_pos (by omega), rd_f0, rd_f1, rd_f2]
      simp only [Option.bind_some, Int.toNat_natCast]
      rw [a2]
      by_cases q1 : (nth (evs xs) i).kind = 3
      · rw [if_pos q1]
        by_cases q2 : (nth (evs xs) i).key = key
        · rw [if_pos (ba_list.2 q2), if_pos ⟨q1, q2⟩]
        · rw [if_neg (fun h => q2 (ba_list.1 h)), if_neg (fun h => q2 h.2)]
      · rw [if_neg q1, if_neg (fun h => q1 h.1)]
    refine Evt.step e ?_
    split
    · rename_i hk
      cases hc : comOf (evs xs) (nth (evs xs) i).txn with
      | false => exact j4t
      | true =>
        obtain ⟨f, ee, h1, h2, h3, h4, h5, h6, h7, h8, h9⟩ := hw.shape hi'
        obtain ⟨b1, b2, b3⟩ := comOf_end hc
        rw [h2] at b3
        simp only [Int.toNat_natCast] at b3
        have hie : i < ee := by
          rcases Nat.lt_or_ge i ee with hlt | hge
          · exact hlt
          · have : 4 ≤ (nth (evs xs) i).kind := h7.2 (by omega)
            omega
        have hlast : (i : Int) ≤ lastOf (evs xs) (nth (evs xs) i).txn key (ee : Int) := by
          unfold lastOf
          rcases last_nth (wroteBy (nth (evs xs) i).txn key) (evs xs) (ee : Int).toNat with ⟨_, z⟩ | ⟨v, _, _, z3, _, z5⟩
          · have := z i hi' (by omega)
            simp [wroteBy, hk.1, hk.2] at this
          · rw [z3]
            rcases Nat.lt_or_ge v i with hlt | hge
            · have := z5 i hi' (by omega) hlt
              simp [wroteBy, hk.1, hk.2] at this
            · omega
        have hm : ee ∈ vcs (evs xs) key := by
          refine List.mem_filter.2 ⟨by simpa using h5, ?_⟩
          unfold comAt
          rw [h8, h2]
          simp [b3]
          omega
        obtain ⟨q0, hq0, hq1⟩ := List.getElem_of_mem hm
        have l2 := vers_l2f xs hn key i ih (by omega) q0 hq0 (by rw [hq1, h8]) (by rw [hq1, h8]; exact hlast) q0 0 (by omega)
        refine Evt.step (fun k => ?_) l2
        simp only [cartouchelaw08_HistoryVersions.j4]
        rw [if_neg (by simp)]
        rfl
    · exact j4t

theorem vers_l0 (hw : Wf (evs xs)) : ∀ (d q : Nat) (last : Int), q + d = (vcs (evs xs) key).length → (∀ q', ∀ h : q' < (vcs (evs xs) key).length, q ≤ q' → last < ((vcs (evs xs) key)[q'] : Nat)) → Evt (fun k => cartouchelaw08_HistoryVersions.l0 k xs key true (versions (evs xs) key) last (q : Int)) true := by
  have hvl : (versions (evs xs) key).length = (vcs (evs xs) key).length := by rw [versions_vcs, List.length_map]
  have hcl : (vcs (evs xs) key).length ≤ xs.length := by have := vcs_len (evs xs) key; rwa [evs_len] at this
  have hlen := evs_len xs
  intro d
  induction d with
  | zero =>
    intro q last hq _
    refine Evt.step (fun k => ?_) (vers_l1 xs hn key hw xs.length 0 (by omega))
    simp only [cartouchelaw08_HistoryVersions.l0]
    rw [if_neg (by omega)]
    rfl
  | succ d ih =>
    intro q last hq hlast
    have hq' : q < (vcs (evs xs) key).length := by omega
    obtain ⟨hc, v, a1, a2, a3, a4, a5, a6⟩ := vcs_at (List.getElem_mem hq')
    have hr := rd_vs (evs xs) key hq'
    rw [a1] at hr
    obtain ⟨c1, c2, c3⟩ := mem_coms hc
    have ih2 := ih (q + 1) ((vcs (evs xs) key)[q] : Nat) (by omega) (fun q' h h' => by
      have := (List.pairwise_iff_getElem.1 (vcs_sorted (evs xs) key)) q q' hq' h (by omega)
      omega)
    obtain ⟨d1, d2, d3, d4⟩ := findL_of a3
    have j2 : Evt (fun k => cartouchelaw08_HistoryVersions.j2 k xs key true (versions (evs xs) key) last (q : Int) false) true := by
      refine Evt.step (fun k => ?_) ih2
      simp only [cartouchelaw08_HistoryVersions.j2]
      unfold history_Find.f
      rw [if_neg (by simp), if_pos (by omega), if_pos (by omega), hr, if_pos (by omega), if_pos (by omega), if_pos (by omega), rd_f1]
      simp only [Option.bind_some, Int.toNat_natCast]
      have hcom : comOf (evs xs) (nth (evs xs) v).txn = true := by
        unfold comOf
        rw [a5, c3]; simp [c2]
      rw [d1, d3, d4, hcom, a5, c3, if_pos (by trivial), if_pos (by trivial), if_neg (show ¬ (((vcs (evs xs) key)[q] : Nat) : Int) < 0 by omega), if_neg (by have := hlast q hq' (Nat.le_refl _); omega), wrap_succ (n := (vcs (evs xs) key).length) (by omega) (by omega)]
    refine Evt.step (fun k => ?_) j2
    simp only [cartouchelaw08_HistoryVersions.l0]
    rw [if_pos (by omega), if_pos (by omega), hr, if_neg (by omega), if_neg (by omega), if_pos (by omega), if_pos (by omega), rd_f0, rd_f2]
    simp only [Int.toNat_natCast]
    rw [if_pos a4, a6]
    simp
end

theorem p_HistoryVersions (l : List S31) (key : ByteArray) (_ : ∀ y ∈ l, EvS y) (hl : l.length * 48 ≤ 140737488351232) (_ : key.size ≤ 140737488351232) : ∃ k, cartouchelaw08_HistoryVersions.f k l key = some true := by
  apply Evt.rounds
  have hn : l.length ≤ 140737488351232 := by omega
  have out : ∀ b, b = true → Evt (fun k => cartouchelaw08_HistoryVersions.j0 k l key true b) true := fun b hb => Evt.now1 fun k => by
    simp only [cartouchelaw08_HistoryVersions.j0]
    rw [if_pos hb]
  have e : ∀ k, cartouchelaw08_HistoryVersions.f k l key = if l.length ≤ 300 then cartouchelaw08_HistoryVersions.j0 k l key true ((formed (evs l)).2 != 0) else cartouchelaw08_HistoryVersions.j0 k l key true true := fun k => by
    unfold cartouchelaw08_HistoryVersions.f cartouchelaw08_few.f history_Formed.f
    rw [shown08, if_pos hn]
    simp only [Option.bind_some]
    by_cases q : l.length ≤ 300
    · rw [if_pos q, if_pos (by simp; omega)]
    · rw [if_neg q, if_neg (by simp; omega)]
  refine Evt.congr e ?_
  by_cases q : l.length ≤ 300
  · simp only [if_pos q]
    by_cases q2 : (formed (evs l)).2 = 0
    · refine Evt.step (fun k => ?_) (vers_l0 l q key (formed_wf q2) (vcs (evs l) key).length 0 (-1) (by omega) (fun q' h _ => by omega))
      simp only [cartouchelaw08_HistoryVersions.j0]
      unfold history_Versions.f
      rw [if_neg (by simp [q2]), if_pos (by omega)]
      rfl
    · exact out _ (by simpa using q2)
  · simp only [if_neg q]
    exact out _ rfl
end Go.Proofs.YthjgmccpbcelgaaPr
