/-
  At which numbers steps begin, as the document has it: walked by hand, and the contract in the words of the printed ones.
-/
import Derived.Test.YtebjiimlcnmfpaaGreatPrCartoucheref11Has
import Derived.Test.YtebjiimlcnmfpaaGreatS11h
set_option linter.unusedVariables false
set_option linter.unusedSimpArgs false
namespace Go.Proofs.YtebjiimlcnmfpaaGreatPr
open Go.Proofs.YtebjiimlcnmfpaaGreat
section
open Go Go.RowKit Go.Proofs Go.Shelf
set_option linter.unusedSimpArgs false
set_option linter.unusedVariables false
attribute [local go_sem] Ext.alloc Ext.alloc2 Ext.alloc3 Ext.alloc4 Ext.drewN_alloc Ext.drewN_alloc2 Ext.drew_alloc Ext.drew Ext.drewN toList_beq
attribute [-go_sem] Builtin.append_

/-- A row of one's own, cut. -/
theorem own_cuts {W : World} {base : Nat} {v : Value} {l : List Int} (h : W.ownsRow base 3 1 v l.length (l.flatMap intCs)) (hb : l.length ≤ 140737488351232) {p : Nat} (hp : p ≤ l.length) : ∃ A1 c1 A2 c2,
    (∀ V, (Instr.slice 31 v none (some (.int .i64 (p : Int))) none).run Tryz.prog V = .ok (.slice A1 p c1) V) ∧ (∀ V, (Instr.slice 31 v (some (.int .i64 (p : Int))) none none).run Tryz.prog V = .ok (.slice A2 (l.length - p) c2) V) ∧ Nums W A1 p (l.take p) ∧ Nums W A2 (l.length - p) (l.drop p) := by
  obtain ⟨i0, hi, hz0, hz1, hz2⟩ := info_parts infoI
  have h0 := h
  rcases h.2 with ⟨rfl, hn⟩ | ⟨g, cap, cur, rfl, hg, hh, hnc, hm, hs, ht⟩
  · obtain rfl : l = [] := List.eq_nil_of_length_eq_zero hn
    obtain rfl : p = 0 := by simpa using hp
    refine ⟨none, 0, none, 0, fun V => ?_, fun V => ?_, Sl.nil _ _ _, Sl.nil _ _ _⟩
    · simp [Instr.slice, run_underlying Tryz.underlying31, Instr.sliceBounds, run_sliceBound, sizeOf, typeInfo, hi, hz1]
    · simp [Instr.slice, run_underlying Tryz.underlying31, Instr.sliceBounds, run_sliceBound, sizeOf, typeInfo, hi, hz1]
  · obtain ⟨A', c', e, hN⟩ := sl_of_own (sz := 1) (z := (0 : Int)) (c := intCs) (hc := fun _ => rfl) (l := l) h0 hb
    injection e with e1 _ e2
    subst e1; subst e2
    have hlo : Nums W (some ⟨g, 0, none⟩) p (l.take p) := Sl.take (k := kInt) hN hp
    have hhi : ∀ q, (p < l.length → q = p) → Nums W (some ⟨g, q, none⟩) (l.length - p) (l.drop p) := fun q hq => by
      refine ⟨by simp, by omega, fun hpos => ⟨g, q, rfl, fun j hj => ?_⟩⟩
      have hq := hq (by omega)
      subst hq
      obtain ⟨b, o, e, hc⟩ := hN.get (by omega)
      cases e
      obtain ⟨cs, hR, hc2⟩ := hc (q + j) (by omega)
      refine ⟨cs, ?_, fun r u hu => ?_⟩
      · have e3 : (l.drop q).getD j kInt.z = l.getD (q + j) kInt.z := by simp only [List.getD_eq_getElem?_getD, List.getElem?_drop]
        rw [e3]; exact hR
      · have h3 : W.cell? ⟨g, 0 + (q + j) * 1 + r, none⟩ = some u := hc2 r u hu
        show W.cell? ⟨g, q + j * 1 + r, none⟩ = some u
        rw [show q + j * 1 + r = 0 + (q + j) * 1 + r by omega]
        exact h3
    by_cases hpc : cap = p
    · refine ⟨some ⟨g, 0, none⟩, cap, some ⟨g, 0, none⟩, 0, fun V => ?_, fun V => ?_, hlo, hhi 0 (fun z => by omega)⟩
      · simp [Instr.slice, run_underlying Tryz.underlying31, Instr.sliceBounds, run_sliceBound, sizeOf, typeInfo, hi, hz1, hnc, hp, Addr.add_zero', show p ≤ cap by omega]
      · simp [Instr.slice, run_underlying Tryz.underlying31, Instr.sliceBounds, run_sliceBound, sizeOf, typeInfo, hi, hz1, hnc, hp, hpc, show p ≤ cap by omega]
        try omega
    · refine ⟨some ⟨g, 0, none⟩, cap, some ⟨g, p, none⟩, cap - p, fun V => ?_, fun V => ?_, hlo, hhi p (fun _ => rfl)⟩
      · simp [Instr.slice, run_underlying Tryz.underlying31, Instr.sliceBounds, run_sliceBound, sizeOf, typeInfo, hi, hz1, hnc, hp, Addr.add_zero', show p ≤ cap by omega, show ¬ cap = 0 by omega]
      · simp [Instr.slice, run_underlying Tryz.underlying31, Instr.sliceBounds, run_sliceBound, sizeOf, typeInfo, hi, hz1, hnc, hp, add_flat, show p ≤ cap by omega, hpc]
set_option maxRecDepth 100000 in
set_option maxHeartbeats 16000000 in
theorem r11_starts (w : World) (A : Option Addr) (c : Nat) (l : Stl) (hC : YtebjiimlcnmfpaaGreatW.PrintWords.Kd.C k80 w A l.length l) (hn : l.length ≤ 1000000) :
    Calls Tryz.prog 114 #[.slice A l.length c] w fun e w' => ∃ v, e = .returned v ∧ w'.ownsRow w.heap.size 3 1 v (Rg.froms fr_ l).length ((Rg.froms fr_ l).flatMap intCs) ∧ Ext w w' := by
  have hX := Ext.refl w
  have HS := hid hC
  clear hC
  go_enter Tryz.func114, Tryz.ntmps114
  go_wp2
  go_loopg [3, 4] l.length (fun n_ out i W => ∃ (k : Nat) (acc : List Int), k ≤ l.length ∧ l.length ≤ n_ + k ∧ i = .int .i64 k ∧ Ext w W ∧ W.ownsRow w.heap.size 3 1 out acc.length (acc.flatMap intCs) ∧ Hid (Beg l k acc))
  case atStart => exact ⟨0, [], by omega, by omega, rfl, hX, World.ownsRow_nil _ _ _ _, hid ⟨List.Pairwise.nil, fun x => by simp, by simp⟩⟩
  case round =>
    obtain ⟨k, acc, hk, hgk, rfl, hW, hown, hb⟩ := hrel
    by_cases hlt : k < l.length
    case neg =>
      obtain rfl : k = l.length := by omega
      have hfin := hid hb.out.all
      rw [hfin.out] at hown
      have HO := hid hown
      clear hb hown
      go_wp2
      go_ret
      exact ⟨_, rfl, HO.out, hW⟩
    obtain ⟨b1, o1, rfl, t0, _⟩ := stl_opn HS.out (by omega) (by omega)
    have T0 := hid t0
    have s0 := t0 wr k hW hlt
    clear t0
    have hal := hb.out.len
    obtain ⟨A0, c0, rfl, hc0, hC0⟩ := own_C hown
    obtain ⟨x, hx⟩ : ∃ x, fr_ (sn l k) = x := ⟨_, rfl⟩
    rw [hx] at s0
    have HX := hid hx
    obtain ⟨kh, hkh⟩ := (has_evt acc x (by omega)).rounds
    have D0 := hid hC0
    have HO := hid hown
    clear hx hC0 hown
    by_cases hin : x ∈ acc
    · rw [decide_eq_true hin] at hkh
      have hb2 := hid (hb.out.same hlt (by rw [show (sn l k).f0 = x from HX.out]; exact hin))
      clear hin
      go_wp2_with (go_at_call 112; (with_reducible refine (cartoucheref11_has.calls kh _ _ acc _ _ _ D0.out hc0 hkh).mono ?_); rintro e1 w1 ⟨rfl, ⟨⟨n1, rfl⟩⟩⟩)
      go_roundg (l.length - (k + 1))
      case measure => omega
      case rel => exact ⟨k + 1, acc, by omega, by omega, by go_num, hW.drewN _, own_ext HO.out hW.le (Ext.drewN (Ext.refl _) _), hb2⟩
    have HIN := hid hin
    rw [decide_eq_false hin] at hkh
    clear hin
    go_wp2_with (go_at_call 112; (with_reducible refine (cartoucheref11_has.calls kh _ _ acc _ _ _ D0.out hc0 hkh).mono ?_); rintro e1 w1 ⟨rfl, ⟨⟨n1, rfl⟩⟩⟩)
    go_loopg [6] acc.length (fun n_ i W => ∃ (p : Nat), p ≤ acc.length ∧ acc.length ≤ n_ + p ∧ i = .int .i64 p ∧ Ext wr W ∧ Hid (∀ j, j < p → ith acc j < x))
    case atStart => exact ⟨0, by omega, by omega, rfl, Ext.drewN (Ext.refl _) _, hid (fun j hj => by omega)⟩
    case round =>
      clear s0
      obtain ⟨p, hp, hgp, rfl, hW2, hlow⟩ := hrel
      have hWW := hW.trans hW2
      have s0 := T0.out wr k hWW hlt
      rw [HX.out] at s0
      by_cases hgo : p < acc.length ∧ ith acc p < x
      · obtain ⟨hpl, hpx⟩ := hgo
        obtain ⟨ba, oa, e, qa⟩ := (nums_of D0.out (by omega)).opn (by omega)
        subst e
        have a0 := qa wr p hW2 hpl
        obtain ⟨y, hy⟩ : ∃ y, inth acc p = y := ⟨_, rfl⟩
        have hyx : y < x := by rw [← hy]; exact hpx
        rw [hy] at a0
        have hlow2 := hid (show ∀ j, j < p + 1 → ith acc j < x from fun j hj => by
          by_cases e : j = p
          · rw [e]; exact hpx
          · exact hlow.out j (by omega))
        clear hy qa hpx
        go_wp2
        go_quiet (fail)
        go_wp2
        go_roundg (acc.length - (p + 1))
        case measure => omega
        case rel => exact ⟨p + 1, by omega, by omega, by go_num, hW2.drewN _, hlow2⟩
      have hend := hid (show p < acc.length → ¬ ith acc p < x from fun z z2 => hgo ⟨z, z2⟩)
      have hbeg := hid (show Beg l (k + 1) (acc.take p ++ [x] ++ acc.drop p) from by
        have := hb.out.more hlt (p := p) (by rw [show (sn l k).f0 = x from HX.out]; exact HIN.out) hp (by rw [show (sn l k).f0 = x from HX.out]; exact hlow.out) (by rw [show (sn l k).f0 = x from HX.out]; exact hend.out)
        rwa [show (sn l k).f0 = x from HX.out] at this)
      have hex : (¬ p < acc.length) ∨ (p < acc.length ∧ ¬ ith acc p < x) := by omega
      clear hgo hend
      obtain ⟨B1, d1, B2, d2, hc1, hc2, hN1, hN2⟩ := own_cuts HO.out (by omega) hp
      have NL := hid (Sl.take (k := kInt) (nums_of D0.out (by omega)) hp)
      have N2 := hid hN2
      have HC2 := hid hc2
      clear hc1 hc2 hN1 hN2
      have HBL := hid (show acc.length ≤ 1000000 ∧ p ≤ acc.length ∧ k < l.length from ⟨by omega, hp, hlt⟩)
      rcases hex with hpe | ⟨hpl, hpx⟩
      case' inr =>
        obtain ⟨ba, oa, e, qa⟩ := (nums_of D0.out (by omega)).opn (by omega)
        subst e
        have a0 := qa wr p hW2 hpl
        obtain ⟨y, hy⟩ : ∃ y, inth acc p = y := ⟨_, rfl⟩
        have hyx : ¬ y < x := by rw [← hy]; exact hpx
        rw [hy] at a0
        clear hy qa hpx
      all_goals
        go_wp2
        go_quiet (fail)
        obtain ⟨W1, hW1⟩ : ∃ W, (wr.drewN nq).alloc (.cells #[] 3) = W := ⟨_, rfl⟩
        have own0 : W1.ownsRow wr.heap.size 3 1 (.slice (some ⟨wr.heap.size, 0, none⟩) 0 0) ([] : List Int).length (([] : List Int).flatMap intCs) := by
          rw [← hW1]
          exact ⟨rfl, .inr ⟨wr.heap.size, 0, #[], rfl, Nat.le_refl _, heap_alloc_new (wr.drewN nq) _, Nat.le_refl _, by unfold maxLen; omega, rfl, rfl⟩⟩
        have hX1 : Ext wr W1 := by rw [← hW1]; exact ((Ext.refl wr).drewN nq).alloc _
        obtain ⟨v1, w1, hrun, hown1, hgr1, _⟩ := app_nums own0 hX1.le (NL.out.ext (hW2.trans hX1)) c0 (by have := HBL.out; simp; omega) 31
        rw [List.nil_append] at hown1
        rw [← hW1] at hrun
        have hY1 : Ext wr w1 := Ext.grown hX1 hgr1 (own_block own0)
        have s1 := T0.out w1 k (hWW.trans hY1) hlt
        rw [HX.out] at s1
        obtain ⟨v2, w2, hrun2, hown2, hgr2, _⟩ := app_int hown1 hY1.le (by have := HBL.out; rw [List.length_take]; omega) 31 x
        have hY2 : Ext wr w2 := Ext.grown hY1 hgr2 (own_block hown1)
        obtain ⟨v3, w3, hrun3, hown3, hgr3, _⟩ := app_nums hown2 hY2.le (N2.out.ext (hW2.trans hY2)) d2 (by have := HBL.out; simp; omega) 31
        have hY3 : Ext wr w3 := Ext.grown hY2 hgr3 (own_block hown2)
        have HO3 := hid (own_base hown3 hWW.le)
        have hc2 := HC2.out w2
        clear own0 hgr1 hgr2 hgr3 hX1 hW1 hown1 hown2 hown3 s0
        try clear a0
        go_wp2
        go_roundg (l.length - (k + 1))
        case measure => omega
        case rel => exact ⟨k + 1, _, by omega, by omega, by go_num, hWW.trans hY3, HO3.out, hbeg⟩
def cartoucheref11_starts.f (l0 : List (S80)) : Option (List Int) := if l0.length ≤ 1000000 then some (Rg.froms fr_ l0) else none
theorem cartoucheref11_starts.calls (A0 : Option Addr) (c0 : Nat) (l0 : List (S80)) (r : List Int) (w : World) (hr0 : YtebjiimlcnmfpaaGreatW.PrintWords.Kd.C k80 w A0 l0.length l0) (hc0 : l0.length ≤ c0) (h : cartoucheref11_starts.f l0 = some r) :
    Calls Tryz.prog 114 #[.slice A0 l0.length c0] w fun e w' => ∃ v0_ : Value, e = .returned (v0_) ∧ YtebjiimlcnmfpaaGreatW.PrintWords.Kd.R (YtebjiimlcnmfpaaGreatW.PrintWords.Kd.int .i64) 3 w' w.heap.size (fun _ => True) v0_ r ∧ Below w.heap.size w w' := by
  unfold cartoucheref11_starts.f at h
  split at h
  · rename_i hn
    injection h with h
    refine (r11_starts w A0 c0 l0 hr0 hn).mono fun e w' ⟨v, he, ho, hx⟩ => ⟨v, he, ?_, hx⟩
    rw [h] at ho
    have := r_of (YtebjiimlcnmfpaaGreatW.PrintWords.Kd.int .i64) 3 intCs (fun x => x) (fun _ _ _ _ => rfl) (fun _ => rfl) ho
    simpa using this
  · cases h
end
end Go.Proofs.YtebjiimlcnmfpaaGreatPr
