/-
  For the laws RingTurns and RingKeeps, walked by hand: rows of steps cut and joined.
-/
import Derived.Test.YtebjiimlcnmfpaaS13
import Derived.Test.YtebjiimlcnmfpaaPr3
set_option linter.unusedVariables false
set_option linter.unusedSimpArgs false
namespace Go.Proofs.YtebjiimlcnmfpaaPr
open Go.Proofs.Ytebjiimlcnmfpaa
section
open Go Go.RowKit Go.Proofs Go.Shelf
set_option linter.unusedSimpArgs false
set_option linter.unusedVariables false
attribute [local go_sem] Ext.alloc Ext.alloc2 Ext.alloc3 Ext.alloc4 Ext.drewN_alloc Ext.drewN_alloc2 Ext.drew_alloc Ext.drew Ext.drewN toList_beq
attribute [-go_sem] Builtin.append_

/-- ring.Closed, and what it means. -/
theorem closed_calls (l : Stl) (hn : l.length ≤ 140737488351232) : ∃ c : Bool, (c = true ↔ Rg.closed fr_ to_ l) ∧ ∀ (A : Option Addr) (cap : Nat) (w : World), YtebjiimlcnmfpaaW.PrintWords.Kd.C k27 w A l.length l → l.length ≤ cap →
    Calls Try.prog 8 #[.slice A l.length cap] w fun e w' => e = .returned (.bool c) ∧ Ext w w' := by
  obtain ⟨c, hc, hc2⟩ := closedP_evt l hn
  obtain ⟨k, hk⟩ := hc.rounds
  exact ⟨c, hc2, fun A cap w h1 h2 => ring_Closed.calls k A cap l c w h1 h2 hk⟩
theorem slice_lo (W : World) (b o len cap m : Nat) (h : m ≤ len) (hc : m < cap) : (Instr.slice 22 (.slice (some ⟨b, o, none⟩) len cap) (some (.int .i64 (m : Int))) none none).run Try.prog W = .ok (.slice (some ⟨b, o + m * 3, none⟩) (len - m) (cap - m)) W := by
  obtain ⟨i0, hi, hz0, hz1, hz2⟩ := info_parts infoStp
  simp [Instr.slice, run_underlying Try.underlying22, Instr.sliceBounds, run_sliceBound, sizeOf, typeInfo, hi, hz1, h, add_flat, show ¬ cap = m by omega]
theorem slice_hi (W : World) (b o len cap m : Nat) (h : m ≤ cap) (hc : 0 < cap) : (Instr.slice 22 (.slice (some ⟨b, o, none⟩) len cap) none (some (.int .i64 (m : Int))) none).run Try.prog W = .ok (.slice (some ⟨b, o, none⟩) m cap) W := by
  obtain ⟨i0, hi, hz0, hz1, hz2⟩ := info_parts infoStp
  simp [Instr.slice, run_underlying Try.underlying22, Instr.sliceBounds, run_sliceBound, sizeOf, typeInfo, hi, hz1, h, add_flat, show ¬ cap = 0 by omega]
theorem sflat_len : ∀ l : List Stp, (l.flatMap Stp.cs).length = l.length * 3
  | [] => rfl
  | s :: r => by rw [List.flatMap_cons, List.length_append, sflat_len r]; simp [Stp.cs]; omega
/-- Steps appended to a row of one's own. -/
theorem app_more {W : World} {base : Nat} {v : Value} {pre : List Stp} (hown : W.ownsRow base 27 3 v pre.length (pre.flatMap Stp.cs)) (hbase : base ≤ W.heap.size) {b o n : Nat} {l : List Stp} (hS : ∀ j u, (l.flatMap Stp.cs)[j]? = some u → W.cell? ⟨b, o + j, none⟩ = some u) (hl : l.length = n) (c : Nat) (hb : (pre.length + n) * 40 ≤ 140737488355328) (ty : TypeId) :
    ∃ v' w', (Builtin.append_ #[22, 22] ty #[v, .slice (some ⟨b, o, none⟩) n c]).run Try.prog W = .ok v' w' ∧ w'.ownsRow base 27 3 v' (pre ++ l).length ((pre ++ l).flatMap Stp.cs) ∧ W.grownBy w' v.ownBlock ∧ (v'.ownBlock = v.ownBlock ∨ v'.ownBlock = some W.heap.size) := by
  obtain ⟨i0, hi, hz0, hz1, hz2⟩ := info_parts infoStp
  subst hl
  obtain ⟨v', w', h1, h2, h3, _, h5⟩ := run_append_own_at (P := Try.prog) (w := W) base 22 ty 27 i0 _ 3 40 Try.underlying22 hi hz0 hz1 hz2 rfl (by decide) v pre.length _ hown ⟨b, o, none⟩ l.length c (l.flatMap Stp.cs)
    (sflat_len l) (fun j u hj => by rw [add_flat]; exact hS j u hj) (fun u hu => by
      obtain ⟨x, _, hx⟩ := List.mem_flatMap.1 hu
      simp [Stp.cs] at hx; rcases hx with rfl | rfl | rfl <;> rfl) (by unfold maxLen; omega) hb hbase
  refine ⟨v', w', h1, ?_, h3, h5⟩
  rw [List.length_append, List.flatMap_append]
  exact h2
theorem flat_cells {w : World} {b : Nat} : ∀ (l : List Stp) (o : Nat), (∀ i r u, i < l.length → (snth l i).cs[r]? = some u → w.cell? ⟨b, o + i * 3 + r, none⟩ = some u) → ∀ j u, (l.flatMap Stp.cs)[j]? = some u → w.cell? ⟨b, o + j, none⟩ = some u
  | [], o, h, j, u, hj => by simp at hj
  | s :: r, o, h, j, u, hj => by
    rw [List.flatMap_cons, List.getElem?_append] at hj
    split at hj
    · have := h 0 j u (by simp) hj
      simpa using this
    · rename_i hge
      have hl : s.cs.length = 3 := rfl
      have := flat_cells r (o + 3) (fun i r' u' hi hu => by
        have := h (i + 1) r' u' (by simp; omega) hu
        rw [show o + 3 + i * 3 + r' = o + (i + 1) * 3 + r' by omega]
        exact this) (j - 3) u (by rw [hl] at hj; exact hj)
      rw [show o + 3 + (j - 3) = o + j by omega] at this
      exact this
theorem stps_flat {w : World} {b o n : Nat} {l : List Stp} (h : Stps w (some ⟨b, o, none⟩) n l) : ∀ j u, (l.flatMap Stp.cs)[j]? = some u → w.cell? ⟨b, o + j, none⟩ = some u := by
  refine flat_cells l o (fun i r u hi hu => ?_)
  have hl := Sl.len h
  obtain ⟨b', o', e, hg⟩ := h.get (show 0 < n by omega)
  cases e
  obtain ⟨cs, hR, hc⟩ := hg i (by omega)
  have hcs : cs = (snth l i).cs := hR
  exact hc r u (by rw [hcs]; exact hu)
theorem Stps.part {w : World} {b o n : Nat} {l : List Stp} (h : Stps w (some ⟨b, o, none⟩) n l) (p : Nat) : ∀ j u, ((l.drop p).flatMap Stp.cs)[j]? = some u → w.cell? ⟨b, o + p * 3 + j, none⟩ = some u := fun j u hj => by
  have h1 := stps_flat h
  rcases Nat.lt_or_ge l.length p with hp | hp
  · rw [List.drop_eq_nil_of_le (by omega)] at hj; simp at hj
  have e : l.flatMap Stp.cs = (l.take p).flatMap Stp.cs ++ (l.drop p).flatMap Stp.cs := by rw [← List.flatMap_append, List.take_append_drop]
  have := h1 (p * 3 + j) u (by
    rw [e, List.getElem?_append_right (by rw [sflat_len, List.length_take]; omega), sflat_len, List.length_take, Nat.min_eq_left hp, Nat.add_sub_cancel_left]
    exact hj)
  rw [Nat.add_assoc]
  exact this
theorem Stps.fore {w : World} {b o n : Nat} {l : List Stp} (h : Stps w (some ⟨b, o, none⟩) n l) (p : Nat) : ∀ j u, ((l.take p).flatMap Stp.cs)[j]? = some u → w.cell? ⟨b, o + j, none⟩ = some u := fun j u hj => by
  refine stps_flat h j u ?_
  have e : l.flatMap Stp.cs = (l.take p).flatMap Stp.cs ++ (l.drop p).flatMap Stp.cs := by rw [← List.flatMap_append, List.take_append_drop]
  rw [e, List.getElem?_append_left (List.getElem?_eq_some_iff.1 hj).1]
  exact hj
theorem bth_reps {w W : World} (hx : Ext w W) : ∀ L : List (Bth (k27.K w)), YtebjiimlcnmfpaaW.PrintWords.Reps (k27.K W) 3 (L.map Bth.t) ((L.map Bth.s).flatMap Stp.cs)
  | [] => YtebjiimlcnmfpaaW.PrintWords.Reps.none _ _
  | b :: r => YtebjiimlcnmfpaaW.PrintWords.Reps.c3 (k27.K_below hx b.hq) (bth_reps hx r)
/-- A row of one's own, of steps that were read before, read. -/
theorem bth_row {w W : World} (hx : Ext w W) {B : Nat} {v : Value} (L : List (Bth (k27.K w))) (h : W.ownsRow B 27 3 v (L.map Bth.s).length ((L.map Bth.s).flatMap Stp.cs)) :
    ∃ A c, v = .slice A (L.map Bth.t).length c ∧ (L.map Bth.t).length ≤ c ∧ (0 < (L.map Bth.t).length → ∃ g, A = some ⟨g, 0, none⟩) ∧ YtebjiimlcnmfpaaW.PrintWords.Kd.C k27 W A (L.map Bth.t).length (L.map Bth.t) := by
  have e : (L.map Bth.s).length = (L.map Bth.t).length := by simp
  rw [e] at h
  obtain ⟨A, c, rfl, hr⟩ := YtebjiimlcnmfpaaW.PrintWords.own_reads_row h (bth_reps hx L) rfl
  obtain ⟨_, ⟨h1, h2⟩ | ⟨g, cap, cur, h3, h4, h5, h6, _⟩⟩ := h
  · exact ⟨A, c, rfl, by omega, fun h => by omega, hr⟩
  · injection h3 with h2 _ h3
    exact ⟨A, c, rfl, by omega, fun _ => ⟨g, h2⟩, hr⟩
theorem C_tail {W : World} {g o n : Nat} {x : S27} {xs : Stl} (h : YtebjiimlcnmfpaaW.PrintWords.Kd.C k27 W (some ⟨g, o, none⟩) n (x :: xs)) : YtebjiimlcnmfpaaW.PrintWords.Kd.C k27 W (some ⟨g, o + 3, none⟩) xs.length xs := by
  obtain ⟨h1, h2, h3⟩ := h
  simp at h1
  refine ⟨rfl, by omega, fun hp => ?_⟩
  obtain ⟨ad, e, hc⟩ := h3 (by omega)
  cases e
  refine ⟨_, rfl, fun j p hj => ?_⟩
  obtain ⟨c, hc1, hc2, hc3⟩ := hc (j + 1) p (by simpa using hj)
  refine ⟨c, hc1, hc2, fun i u hu => ?_⟩
  have := hc3 i u hu
  rw [add_flat] at this ⊢
  rw [show k27.sz = 3 from rfl] at this ⊢
  rw [show o + 3 + (j * 3 + i) = o + ((j + 1) * 3 + i) by omega]
  exact this
end
end Go.Proofs.YtebjiimlcnmfpaaPr
