/-
  The document's Holds, walked by hand: as the program's; and its contract in the words of the printed ones.
-/
import Derived.Test.YtebjiimlcnmfpaaGreatS17
import Derived.Test.YtebjiimlcnmfpaaGreatS14
import Derived.Test.YtebjiimlcnmfpaaGreatA15
set_option linter.unusedVariables false
set_option linter.unusedSimpArgs false
namespace Go.Proofs.YtebjiimlcnmfpaaGreatPr
open Go.Proofs.YtebjiimlcnmfpaaGreat
section
open Go Go.RowKit Go.Proofs Go.Shelf
set_option linter.unusedSimpArgs false
set_option linter.unusedVariables false
attribute [local go_sem] Ext.alloc Ext.alloc2 Ext.alloc3 Ext.alloc4 Ext.drewN_alloc Ext.drewN_alloc2 Ext.drew_alloc Ext.drew Ext.drewN toList_beq

theorem cm_com {l : List Ev} {t : Int} : comOf l t = true ↔ ¬ cmS l t < 0 := by
  rw [← cm_neg]; omega
theorem cm_is {l : List Ev} {t : Int} (h : comOf l t = true) : cmS l t = endOf l t := if_pos h
theorem h_gate (cf ct from_ to_ i j : Int) (n : Nat) :
    (¬ cf < 0 ∧ ¬ ct < 0 ∧ from_ ≠ to_ ∧ ¬ i < 0 ∧ ¬ (n : Int) ≤ i ∧ ¬ j < 0 ∧ ¬ (n : Int) ≤ j) ∨
    (cf < 0 ∨ (¬ cf < 0 ∧ ct < 0) ∨ (¬ cf < 0 ∧ ¬ ct < 0 ∧ from_ = to_) ∨ (¬ cf < 0 ∧ ¬ ct < 0 ∧ (from_ == to_) = false ∧ i < 0) ∨ (¬ cf < 0 ∧ ¬ ct < 0 ∧ (from_ == to_) = false ∧ ¬ i < 0 ∧ (n : Int) ≤ i) ∨
     (¬ cf < 0 ∧ ¬ ct < 0 ∧ (from_ == to_) = false ∧ ¬ i < 0 ∧ ¬ (n : Int) ≤ i ∧ j < 0) ∨ (¬ cf < 0 ∧ ¬ ct < 0 ∧ (from_ == to_) = false ∧ ¬ i < 0 ∧ ¬ (n : Int) ≤ i ∧ ¬ j < 0 ∧ (n : Int) ≤ j)) := by
  rw [beq_eq_false_iff_ne]; omega
theorem h_tail (kind ka kb : Int) : ((kind = 1 ∧ (ka == 3) = false) ∨ (kind = 1 ∧ ka = 3 ∧ (kb == 3) = false) ∨ (kind = 2 ∧ (ka == 3) = false) ∨ (kind = 2 ∧ ka = 3 ∧ (kb == 2) = false) ∨
    ((kind == 1) = false ∧ (kind == 2) = false ∧ (kind != 3) = true) ∨ (kind = 3 ∧ (ka != 2) = true) ∨ (kind = 3 ∧ ka = 2 ∧ (kb != 3) = true)) ∨ (kind = 1 ∧ ka = 3 ∧ kb = 3) ∨ (kind = 2 ∧ ka = 3 ∧ kb = 2) ∨ (kind = 3 ∧ ka = 2 ∧ kb = 3) := by
  simp only [beq_eq_false_iff_ne, bne_iff_ne]; omega
theorem holdsP_tail {l : List Ev} {kind from_ to_ : Int} {i j : Nat} (h1 : comOf l from_ = true) (h2 : comOf l to_ = true) (h3 : from_ ≠ to_) (h4 : i < l.length) (h5 : j < l.length) :
    holdsP l ⟨kind, from_, to_, i, j⟩ ↔ (nth l i).key = (nth l j).key ∧ (nth l i).txn = from_ ∧ (nth l j).txn = to_ ∧
      ((kind = 1 ∧ (nth l i).kind = 3 ∧ (nth l j).kind = 3 ∧ endOf l from_ < endOf l to_) ∨
       (kind = 2 ∧ (nth l i).kind = 3 ∧ (nth l j).kind = 2 ∧ (nth l i).val = (nth l j).val) ∨
       (kind = 3 ∧ (nth l i).kind = 2 ∧ (nth l j).kind = 3 ∧ overP l i to_)) := by
  unfold holdsP
  simp only [Int.toNat_natCast]
  constructor
  · rintro ⟨_, _, _, _, _, _, _, k, a, b, c⟩
    exact ⟨k, a, b, c⟩
  · rintro ⟨k, a, b, c⟩
    exact ⟨h1, h2, h3, by omega, by omega, by omega, by omega, k, a, b, c⟩
set_option maxRecDepth 100000 in
set_option maxHeartbeats 8000000 in
theorem r10_holds (w : World) (A : Option Addr) (cap : Nat) (xs : List S50) (kind from_ to_ i j : Int) (hC : YtebjiimlcnmfpaaGreatW.PrintWords.Kd.C k50 w A xs.length xs) (hcap : xs.length ≤ cap) (hn : xs.length ≤ 140737488351232) :
    Calls Tryz.prog 27 #[.slice A xs.length cap, .agg #[.int .i64 kind, .int .i64 from_, .int .i64 to_, .int .i64 i, .int .i64 j]] w fun e w' => e = .returned (.bool (holds (evs xs) ⟨kind, from_, to_, i, j⟩)) ∧ Ext w w' := by
  have hX := Ext.refl w
  have HC := hid hC
  have HE := hid (evs_of hC hn)
  obtain ⟨R, hR⟩ : ∃ R, holds (evs xs) ⟨kind, from_, to_, i, j⟩ = R := ⟨_, rfl⟩
  have HR := hid (show decide (holdsP (evs xs) ⟨kind, from_, to_, i, j⟩) = R from hR)
  rw [hR]
  obtain ⟨kf, hkf⟩ := (committed_evt xs hn from_).rounds
  obtain ⟨kt, hkt⟩ := (committed_evt xs hn to_).rounds
  have HF := hid hkf
  have HT := hid hkt
  have HCF := hid (cm_com (l := evs xs) (t := from_))
  have HCT := hid (cm_com (l := evs xs) (t := to_))
  have HL := hid (evs_len xs)
  have HEF := hid (fun h => cm_is (l := evs xs) (t := from_) h)
  have HET := hid (fun h => cm_is (l := evs xs) (t := to_) h)
  clear hR hC hkf hkt
  generalize hcf : cmS (evs xs) from_ = cf at HF HCF HEF
  generalize hct : cmS (evs xs) to_ = ct at HT HCT HET
  clear hcf hct
  go_enter Tryz.func27, Tryz.ntmps27
  rcases h_gate cf ct from_ to_ i j xs.length with ⟨g1, g2, g3, g4, g5, g6, g7⟩ | hbad
  case inr =>
    have hR2 : R = false := by
      rw [← HR.out]
      refine decide_eq_false (fun h => ?_)
      obtain ⟨a1, a2, a3, a4, a5, a6, a7, _⟩ := h
      have b1 := HCF.out.1 a1
      have b2 := HCT.out.1 a2
      have b3 := HL.out
      simp only [beq_eq_false_iff_ne] at hbad
      dsimp only at a3 a4 a5 a6 a7
      omega
    subst hR2
    clear HR HEF HET
    rcases hbad with h1 | ⟨h1, h2⟩ | ⟨h1, h2, rfl⟩ | ⟨h1, h2, h3, h4⟩ | ⟨h1, h2, h3, h4, h5⟩ | ⟨h1, h2, h3, h4, h5, h6⟩ | ⟨h1, h2, h3, h4, h5, h6, h7⟩
    all_goals
      go_wp2_with first
        | (go_at_call 54; (with_reducible refine (cartoucheref10_committed.calls kf A cap xs from_ cf _ (C_go HC.out (by repeat (first | assumption | apply Ext.alloc | apply Ext.drewN | apply Ext.drew | (refine Ext.setCell (by simp <;> omega) ?_ _)))) hcap HF.out).mono ?_); rintro e1 w1 ⟨rfl, ⟨⟨n1, rfl⟩⟩⟩)
        | (go_at_call 54; (with_reducible refine (cartoucheref10_committed.calls kt A cap xs to_ ct _ (C_go HC.out (by repeat (first | assumption | apply Ext.alloc | apply Ext.drewN | apply Ext.drew | (refine Ext.setCell (by simp <;> omega) ?_ _)))) hcap HT.out).mono ?_); rintro e2 w2 ⟨rfl, ⟨⟨n2, rfl⟩⟩⟩)
      go_ret
      exact ⟨rfl, (by repeat (first | assumption | apply Ext.alloc | apply Ext.drewN | apply Ext.drew | (refine Ext.setCell (by simp <;> omega) ?_ _)))⟩
  have hcf := HCF.out.2 g1
  have hct := HCT.out.2 g2
  obtain ⟨i, rfl⟩ : ∃ m : Nat, i = m := ⟨i.toNat, by omega⟩
  obtain ⟨j, rfl⟩ : ∃ m : Nat, j = m := ⟨j.toNat, by omega⟩
  have hi2 : i < xs.length := by omega
  have hj2 : j < xs.length := by omega
  have hm := hid (holdsP_tail (l := evs xs) (kind := kind) hcf hct g3 (by rw [HL.out]; exact hi2) (by rw [HL.out]; exact hj2))
  obtain ⟨b, o, rfl, q0, q1, q2, q3⟩ := HE.out.opn (by omega)
  have c0 := q0 w i hX hi2
  have c1 := q1 w i hX hi2
  have c2 := q2 w i hX hi2
  have c3 := q3 w i hX hi2
  have d0 := q0 w j hX hj2
  have d1 := q1 w j hX hj2
  have d2 := q2 w j hX hj2
  have d3 := q3 w j hX hj2
  have Q1 := hid q1
  have hbb : b < w.heap.size := block_lt_of_cell c0
  have hb1 : b < w.heap.size + 1 := by omega
  have hb2 : b < w.heap.size + 1 + 1 := by omega
  have g3' : (from_ == to_) = false := beq_eq_false_iff_ne.2 g3
  obtain ⟨x, hx⟩ : ∃ x, nth (evs xs) i = x := ⟨_, rfl⟩
  obtain ⟨y, hy⟩ : ∃ y, nth (evs xs) j = y := ⟨_, rfl⟩
  have HXY := hid (And.intro hx hy)
  rw [hx] at c0 c1 c2 c3
  rw [hy] at d0 d1 d2 d3
  clear q0 q1 q2 q3 g3 hx hy hcf hct
  go_upto_region 7 with (first
        | (go_at_call 54; (with_reducible refine (cartoucheref10_committed.calls kf _ cap xs from_ cf _ (C_go HC.out (by repeat (first | assumption | apply Ext.alloc | apply Ext.drewN | apply Ext.drew | (refine Ext.setCell (by simp <;> omega) ?_ _)))) hcap HF.out).mono ?_); rintro e1 w1 ⟨rfl, ⟨⟨n1, rfl⟩⟩⟩)
        | (go_at_call 54; (with_reducible refine (cartoucheref10_committed.calls kt _ cap xs to_ ct _ (C_go HC.out (by repeat (first | assumption | apply Ext.alloc | apply Ext.drewN | apply Ext.drew | (refine Ext.setCell (by simp <;> omega) ?_ _)))) hcap HT.out).mono ?_); rintro e2 w2 ⟨rfl, ⟨⟨n2, rfl⟩⟩⟩))
  have HC2 := hid HC.out
  clear HF HT HC
  by_cases hg : x.key = y.key ∧ x.txn = from_ ∧ y.txn = to_
  case neg =>
    have hR2 : R = false := by
      rw [← HR.out]
      refine decide_eq_false (fun h => hg ?_)
      have h2 := hm.out.1 h
      rw [HXY.out.1, HXY.out.2] at h2
      exact ⟨h2.1, h2.2.1, h2.2.2.1⟩
    subst hR2
    have hw : (¬ x.key = y.key) ∨ (x.key = y.key ∧ (x.txn != from_) = true) ∨ (x.key = y.key ∧ x.txn = from_ ∧ (y.txn != to_) = true) := by
      simp only [bne_iff_ne]
      by_cases z1 : x.key = y.key
      · by_cases z2 : x.txn = from_
        · exact .inr (.inr ⟨z1, z2, fun z3 => hg ⟨z1, z2, z3⟩⟩)
        · exact .inr (.inl ⟨z1, z2⟩)
      · exact .inl z1
    clear hg HR hm HEF HET
    rcases hw with h1 | ⟨h1, h2⟩ | ⟨h1, h2, h3⟩
    all_goals
      try rw [← h1]
      try rw [h2]
      go_wp2
      go_ret
      exact ⟨rfl, (by repeat (first | assumption | apply Ext.alloc | apply Ext.drewN | apply Ext.drew | (refine Ext.setCell (by simp <;> omega) ?_ _)))⟩
  obtain ⟨k1, k2, k3⟩ := hg
  have hRt := hid (show R = true ↔ ((kind = 1 ∧ x.kind = 3 ∧ y.kind = 3 ∧ endOf (evs xs) from_ < endOf (evs xs) to_) ∨ (kind = 2 ∧ x.kind = 3 ∧ y.kind = 2 ∧ x.val = y.val) ∨ (kind = 3 ∧ x.kind = 2 ∧ y.kind = 3 ∧ overP (evs xs) i to_)) from by
    rw [← HR.out, decide_eq_true_iff, hm.out, HXY.out.1, HXY.out.2]
    exact ⟨fun h => h.2.2.2, fun h => ⟨k1, k2, k3, h⟩⟩)
  clear HR hm
  rw [← k1, k2, k3]
  rw [← k1] at d2
  rw [k2] at c1
  rw [k3] at d1
  have K1 := hid k1
  clear k1 k2 k3
  rcases h_tail kind x.kind y.kind with hf | ⟨h1, h2, h3⟩ | ⟨h1, h2, h3⟩ | ⟨h1, h2, h3⟩
  · have hR2 : R = false := by
      cases hq : R with
      | false => rfl
      | true =>
        have := hRt.out.1 hq
        simp only [beq_eq_false_iff_ne, bne_iff_ne] at hf
        rcases this with ⟨a1, a2, a3, _⟩ | ⟨a1, a2, a3, _⟩ | ⟨a1, a2, a3, _⟩ <;> omega
    subst hR2
    clear hRt HEF HET
    rcases hf with ⟨h1, h2⟩ | ⟨h1, h2, h3⟩ | ⟨h1, h2⟩ | ⟨h1, h2, h3⟩ | ⟨h1, h2, h3⟩ | ⟨h1, h2⟩ | ⟨h1, h2, h3⟩
    all_goals
      try subst h1
      try rw [h2]
      go_wp2
      go_ret
      exact ⟨rfl, (by repeat (first | assumption | apply Ext.alloc | apply Ext.drewN | apply Ext.drew | (refine Ext.setCell (by simp <;> omega) ?_ _)))⟩
  · have hR2 := hid (show decide (cf < ct) = R from by
      rw [Bool.eq_iff_iff, decide_eq_true_iff, hRt.out, HEF.out (HCF.out.2 (by omega)), HET.out (HCT.out.2 (by omega))]
      simp only [h1, h2, h3]; simp)
    subst h1
    rw [h2, h3]
    clear hRt HEF HET
    go_wp2
    go_ret
    exact ⟨ret_bool hR2.out, (by repeat (first | assumption | apply Ext.alloc | apply Ext.drewN | apply Ext.drew | (refine Ext.setCell (by simp <;> omega) ?_ _)))⟩
  · have hR2 := hid (show decide (x.val = y.val) = R from by
      rw [Bool.eq_iff_iff, decide_eq_true_iff, hRt.out]
      simp only [h1, h2, h3]; simp)
    subst h1
    rw [h2, h3]
    clear hRt HEF HET
    go_wp2
    go_ret
    exact ⟨ret_bool hR2.out, (by repeat (first | assumption | apply Ext.alloc | apply Ext.drewN | apply Ext.drew | (refine Ext.setCell (by simp <;> omega) ?_ _)))⟩
  have hR2 := hid (show R = true ↔ overP (evs xs) i to_ from by
    rw [hRt.out]
    simp only [h1, h2, h3]; simp)
  subst h1
  rw [h2, h3]
  clear hRt HEF
  have hov := hid (show R = true ↔ (x.val = ByteArray.empty ∨ (0 ≤ writer (evs xs) x.key x.val ∧ (nth (evs xs) (writer (evs xs) x.key x.val).toNat).txn ≠ to_ ∧ comOf (evs xs) (nth (evs xs) (writer (evs xs) x.key x.val).toNat).txn = true ∧ endOf (evs xs) (nth (evs xs) (writer (evs xs) x.key x.val).toNat).txn < ct)) from by
    rw [hR2.out, HET.out (HCT.out.2 (by omega))]
    unfold overP
    rw [HXY.out.1])
  clear hR2 HET h2 h3
  by_cases hv : x.val = ByteArray.empty
  · have hR3 := hid (hov.out.2 (.inl hv))
    rw [hv]
    clear hov hv
    go_wp2
    go_ret
    exact ⟨ret_bool hR3.out.symm, (by repeat (first | assumption | apply Ext.alloc | apply Ext.drewN | apply Ext.drew | (refine Ext.setCell (by simp <;> omega) ?_ _)))⟩
  have hv2 := ne_isEmpty hv
  have hW := hid (show cartoucheref08_Writer.f xs x.key x.val = some (writer (evs xs) x.key x.val) from by unfold cartoucheref08_Writer.f; rw [if_pos hn])
  have hov2 := hid (show R = true ↔ _ from hov.out.trans (or_iff_right hv))
  have hrg := idx_lt (writes x.key x.val) (evs xs)
  rw [HL.out] at hrg
  obtain ⟨u, hu⟩ : ∃ u, writer (evs xs) x.key x.val = u := ⟨_, rfl⟩
  rw [show idx (writes x.key x.val) (evs xs) 0 = u from hu] at hrg
  rw [hu] at hW hov2
  clear hov hu hv c0 c2 c3 d0 d1 d2 d3 c1
  by_cases hu0 : u < 0
  · have hR3 := hid (show R = false from by
      cases hq : R with
      | false => rfl
      | true => have := (hov2.out.1 hq).1; omega)
    clear hov2
    go_wp2_with (go_at_call 58; (with_reducible refine (cartoucheref08_Writer.calls _ cap xs x.key x.val u _ (C_go HC2.out (by repeat (first | assumption | apply Ext.alloc | apply Ext.drewN | apply Ext.drew | (refine Ext.setCell (by simp <;> omega) ?_ _)))) hcap hW.out).mono ?_); rintro e3 w3 ⟨rfl, ⟨⟨n3, rfl⟩⟩⟩)
    go_quiet (fail)
    go_wp2
    go_ret
    exact ⟨ret_bool hR3.out.symm, (by repeat (first | assumption | apply Ext.alloc | apply Ext.drewN | apply Ext.drew | (refine Ext.setCell (by simp <;> omega) ?_ _)))⟩
  obtain ⟨u, rfl⟩ : ∃ m : Nat, u = m := ⟨u.toNat, by omega⟩
  have hu2 : u < xs.length := by omega
  have e1 := Q1.out w u hX hu2
  rw [Int.toNat_natCast] at hov2
  obtain ⟨t, ht⟩ : ∃ t, (nth (evs xs) u).txn = t := ⟨_, rfl⟩
  rw [ht] at e1 hov2
  clear ht
  by_cases htt : t = to_
  · have hR3 := hid (show R = false from by
      cases hq : R with
      | false => rfl
      | true => exact absurd htt (hov2.out.1 hq).2.1)
    rw [htt] at e1
    clear hov2 htt
    go_wp2_with (go_at_call 58; (with_reducible refine (cartoucheref08_Writer.calls _ cap xs x.key x.val u _ (C_go HC2.out (by repeat (first | assumption | apply Ext.alloc | apply Ext.drewN | apply Ext.drew | (refine Ext.setCell (by simp <;> omega) ?_ _)))) hcap hW.out).mono ?_); rintro e3 w3 ⟨rfl, ⟨⟨n3, rfl⟩⟩⟩)
    go_quiet (fail)
    go_wp2
    go_ret
    exact ⟨ret_bool hR3.out.symm, (by repeat (first | assumption | apply Ext.alloc | apply Ext.drewN | apply Ext.drew | (refine Ext.setCell (by simp <;> omega) ?_ _)))⟩
  have htb : (t == to_) = false := beq_eq_false_iff_ne.2 htt
  obtain ⟨kc, hkc⟩ := (committed_evt xs hn t).rounds
  have HK := hid hkc
  have hcc := hid (cm_com (l := evs xs) (t := t))
  have hce := hid (fun h => cm_is (l := evs xs) (t := t) h)
  clear hkc
  generalize hce2 : cmS (evs xs) t = ce at HK hcc hce
  clear hce2
  by_cases hc0 : ce < 0
  · have hR3 := hid (show R = false from by
      cases hq : R with
      | false => rfl
      | true => exact absurd hc0 (hcc.out.1 (hov2.out.1 hq).2.2.1))
    clear hov2 htt
    go_wp2_with (go_at_call 58; (with_reducible refine (cartoucheref08_Writer.calls _ cap xs x.key x.val u _ (C_go HC2.out (by repeat (first | assumption | apply Ext.alloc | apply Ext.drewN | apply Ext.drew | (refine Ext.setCell (by simp <;> omega) ?_ _)))) hcap hW.out).mono ?_); rintro e3 w3 ⟨rfl, ⟨⟨n3, rfl⟩⟩⟩)
    go_quiet (fail)
    go_wp2_with (go_at_call 54; (with_reducible refine (cartoucheref10_committed.calls kc _ cap xs t ce _ (C_go HC2.out (by repeat (first | assumption | apply Ext.alloc | apply Ext.drewN | apply Ext.drew | (refine Ext.setCell (by simp <;> omega) ?_ _)))) hcap HK.out).mono ?_); rintro e4 w4 ⟨rfl, ⟨⟨n4, rfl⟩⟩⟩)
    go_ret
    exact ⟨ret_bool hR3.out.symm, (by repeat (first | assumption | apply Ext.alloc | apply Ext.drewN | apply Ext.drew | (refine Ext.setCell (by simp <;> omega) ?_ _)))⟩
  have hR3 := hid (show decide (ce < ct) = R from by
    have h1 := hcc.out.2 hc0
    rw [Bool.eq_iff_iff, decide_eq_true_iff, hov2.out, hce.out h1]
    exact ⟨fun h => ⟨by omega, htt, h1, h⟩, fun h => h.2.2.2⟩)
  clear hov2 htt
  go_wp2_with (go_at_call 58; (with_reducible refine (cartoucheref08_Writer.calls _ cap xs x.key x.val u _ (C_go HC2.out (by repeat (first | assumption | apply Ext.alloc | apply Ext.drewN | apply Ext.drew | (refine Ext.setCell (by simp <;> omega) ?_ _)))) hcap hW.out).mono ?_); rintro e3 w3 ⟨rfl, ⟨⟨n3, rfl⟩⟩⟩)
  go_quiet (fail)
  go_wp2_with (go_at_call 54; (with_reducible refine (cartoucheref10_committed.calls kc _ cap xs t ce _ (C_go HC2.out (by repeat (first | assumption | apply Ext.alloc | apply Ext.drewN | apply Ext.drew | (refine Ext.setCell (by simp <;> omega) ?_ _)))) hcap HK.out).mono ?_); rintro e4 w4 ⟨rfl, ⟨⟨n4, rfl⟩⟩⟩)
  go_ret
  exact ⟨ret_bool hR3.out, (by repeat (first | assumption | apply Ext.alloc | apply Ext.drewN | apply Ext.drew | (refine Ext.setCell (by simp <;> omega) ?_ _)))⟩
def cartoucheref10_Holds.f (l0 : List (S50)) (a1_0 : Int) (a1_1 : Int) (a1_2 : Int) (a1_3 : Int) (a1_4 : Int) : Option (Bool) := if l0.length ≤ 140737488351232 then some (holds (evs l0) ⟨a1_0, a1_1, a1_2, a1_3, a1_4⟩) else none
theorem cartoucheref10_Holds.calls (A0 : Option Addr) (c0 : Nat) (l0 : List (S50)) (a1_0 : Int) (a1_1 : Int) (a1_2 : Int) (a1_3 : Int) (a1_4 : Int) (r : Bool) (w : World) (hr0 : YtebjiimlcnmfpaaGreatW.PrintWords.Kd.C k50 w A0 l0.length l0) (hc0 : l0.length ≤ c0) (h : cartoucheref10_Holds.f l0 a1_0 a1_1 a1_2 a1_3 a1_4 = some r) :
    Calls Tryz.prog 27 #[.slice A0 l0.length c0, .agg #[.int .i64 a1_0, .int .i64 a1_1, .int .i64 a1_2, .int .i64 a1_3, .int .i64 a1_4]] w fun e w' => e = .returned (.bool r) ∧ Below w.heap.size w w' := by
  unfold cartoucheref10_Holds.f at h
  split at h
  · rename_i hn
    injection h with h
    subst h
    exact r10_holds w A0 c0 l0 a1_0 a1_1 a1_2 a1_3 a1_4 hr0 hc0 hn
  · cases h
end
end Go.Proofs.YtebjiimlcnmfpaaGreatPr
