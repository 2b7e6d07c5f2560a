/-
  The document's order of nodes, walked by hand, and its contract in the words of the printed ones.
-/
import Derived.Test.YtebjiimlcnmfpaaGreatPrCartoucheref11Has
import Derived.Test.YtebjiimlcnmfpaaGreatPrCartoucheref11Without
import Derived.Test.YtebjiimlcnmfpaaGreatS11h
import Derived.Test.YtebjiimlcnmfpaaGreatS14
import Derived.Test.YtebjiimlcnmfpaaGreatR1
set_option linter.unusedVariables false
set_option linter.unusedSimpArgs false
namespace Go.Proofs.YtebjiimlcnmfpaaGreatPr
open Go.Proofs.YtebjiimlcnmfpaaGreat
section
open Go Go.RowKit Go.Proofs Go.Shelf
set_option linter.unusedSimpArgs false
set_option linter.unusedVariables false
attribute [local go_sem] Ext.alloc Ext.alloc2 Ext.alloc3 Ext.alloc4 Ext.drewN_alloc Ext.drewN_alloc2 Ext.drew_alloc Ext.drew Ext.drewN toList_beq
attribute [-go_sem] Builtin.append_

def freeS (L : List Int) (n : Int) (s : S80) : Bool := !(decide (s.f1 = n) && decide (s.f0 ∈ L))
abbrev freeP (l : Stl) (L : List Int) (n : Int) : Bool := Rg.free fr_ to_ l L n
theorem freeP_all (l : Stl) (L : List Int) (n : Int) : freeP l L n = l.all (freeS L n) := rfl
theorem ord_w1 (fr inn : Bool) (t x : Int) : (fr = false) ∨ (fr = true ∧ (t != x) = true) ∨ (fr = true ∧ t = x ∧ inn = true) ∨ (fr = true ∧ t = x ∧ inn = false) := by
  cases fr <;> cases inn <;> simp [bne_iff_ne] <;> omega
theorem ord_w2 (fr fo : Bool) (x b : Int) : (fr = false) ∨ (fr = true ∧ fo = false) ∨ (fr = true ∧ fo = true ∧ x < b) ∨ (fr = true ∧ fo = true ∧ ¬ x < b) := by
  cases fr <;> cases fo <;> simp <;> omega
/-- The two rows that the order is made with. -/
structure OInv (w W : World) (left out : Value) (L O : List Int) : Prop where
  ext : Ext w W
  lf : W.ownsRow w.heap.size 3 1 left L.length (L.flatMap intCs)
  ot : W.ownsRow w.heap.size 3 1 out O.length (O.flatMap intCs)
  ap : ∀ k, left.ownBlock = some k → out.ownBlock ≠ some k
theorem OInv.go {w W W' : World} {left out : Value} {L O : List Int} (h : OInv w W left out L O) (x : Ext W W') : OInv w W' left out L O := ⟨h.ext.trans x, own_ext h.lf h.ext.le x, own_ext h.ot h.ext.le x, h.ap⟩
set_option maxRecDepth 100000 in
set_option maxHeartbeats 16000000 in
theorem r11_order (w : World) (A0 : Option Addr) (c0 : Nat) (ns : List Int) (A1 : Option Addr) (c1 : Nat) (l : Stl) (h0 : YtebjiimlcnmfpaaGreatW.PrintWords.Kd.C (YtebjiimlcnmfpaaGreatW.PrintWords.Kd.int .i64) w A0 ns.length ns) (h1 : YtebjiimlcnmfpaaGreatW.PrintWords.Kd.C k80 w A1 l.length l) (hn : ns.length ≤ 1000000) (hl : l.length ≤ 1000000) :
    Calls Tryz.prog 80 #[.slice A0 ns.length c0, .slice A1 l.length c1] w fun e w' => ∃ v, e = .returned (.tuple #[v, .bool (Rg.order fr_ to_ l ns).isSome]) ∧ w'.ownsRow w.heap.size 3 1 v ((Rg.order fr_ to_ l ns).getD []).length (((Rg.order fr_ to_ l ns).getD []).flatMap intCs) ∧ Ext w w' := by
  have hX := Ext.refl w
  have HN := hid (nums_of h0 (by omega))
  have HS := hid h1
  have HR := hid (Rg.refOrd_order fr_ to_ l ns)
  obtain ⟨R, hR⟩ : ∃ R, Rg.order fr_ to_ l ns = R := ⟨_, rfl⟩
  rw [hR] at HR ⊢
  clear hR h0 h1
  obtain ⟨W1, hW1⟩ : ∃ W, w.alloc (.cells #[] 3) = W := ⟨_, rfl⟩
  have own0 : W1.ownsRow w.heap.size 3 1 (.slice (some ⟨w.heap.size, 0, none⟩) 0 0) ([] : List Int).length (([] : List Int).flatMap intCs) := by
    rw [← hW1]
    exact ⟨rfl, .inr ⟨w.heap.size, 0, #[], rfl, Nat.le_refl _, heap_alloc_new w _, Nat.le_refl _, by unfold maxLen; omega, rfl, rfl⟩⟩
  have hX1 : Ext w W1 := by rw [← hW1]; exact (Ext.refl w).alloc _
  go_enter Tryz.func80, Tryz.ntmps80
  obtain ⟨v', W2, hrun, hown, hgr, _⟩ := app_nums own0 hX1.le (HN.out.ext hX1) c0 (by simp; omega) 31
  have hX2 : Ext w W2 := Ext.grown hX1 hgr (own_block own0)
  rw [List.nil_append] at hown
  rw [← hW1] at hrun
  clear own0 hgr hX1 hW1
  go_wp2
  clear hrun
  go_loopg [6, 7] ns.length (fun n_ left out W => ∃ L O, L.length ≤ n_ ∧ L.length + O.length ≤ ns.length ∧ OInv w W left out L O ∧ Hid (Rg.refOrd fr_ to_ l n_ L O = R))
  case atStart => exact ⟨ns, [], Nat.le_refl _, by simp, ⟨hX2, hown, World.ownsRow_nil _ _ _ _, fun k hk => by simp [Value.ownBlock]⟩, HR⟩
  case round =>
    clear hown hX2
    obtain ⟨L, O, hLn, hLO, hI, hr⟩ := hrel
    obtain ⟨AL, cL, rfl, hcL, hCL⟩ := own_C hI.lf
    by_cases hz : L = []
    case pos =>
      subst hz
      have hR2 : Hid (R = some O) := hid (by rw [← hr.out]; cases gk <;> simp [Rg.refOrd])
      clear hr
      go_wp2
      go_ret2
      exact ⟨_, by rw [hR2.out]; rfl, by rw [hR2.out]; exact hI.ot, hI.ext⟩
    have hpos : 0 < L.length := List.length_pos_iff.2 hz
    have hposI : (0 : Int) < (L.length : Int) := by omega
    obtain ⟨m, rfl⟩ : ∃ m, gk = m + 1 := ⟨gk - 1, by omega⟩
    have hr2 : Hid ((match Rg.bestL (freeP l L) L none with | none => none | some n => Rg.refOrd fr_ to_ l m (L.filter (fun y => decide (y ≠ n))) (O ++ [n])) = R) := hid (by have := hr.out; unfold Rg.refOrd at this; rwa [if_neg hz] at this)
    obtain ⟨bl, ol, rfl, qL⟩ := (nums_of hCL (by omega)).opn hpos
    have QL := hid qL
    have HCL := hid hCL
    have HI := hid hI
    clear hz hr qL hCL hI
    go_wp2
    go_loopg [8, 9, 10] L.length (fun n2 best found i W => ∃ (i' : Nat) (b : Option Int) (bv : Int), i' ≤ L.length ∧ L.length ≤ n2 + i' ∧ i = .int .i64 i' ∧ best = .int .i64 bv ∧ found = .bool b.isSome ∧ Ext wr W ∧ Hid (∀ y, b = some y → bv = y) ∧ Hid (Rg.bestL (freeP l L) (L.drop i') b = Rg.bestL (freeP l L) L none))
    case atStart => exact ⟨0, none, 0, by omega, by omega, rfl, rfl, rfl, Ext.refl _, hid (fun y h => by cases h), hid (by rw [List.drop_zero])⟩
    case round =>
      obtain ⟨i, b, bv, hi, hgi, rfl, rfl, rfl, hW, hbv, hb⟩ := hrel
      by_cases hlt : i < L.length
      case neg =>
        have hb2 : Hid (Rg.bestL (freeP l L) L none = b) := hid (by rw [← hb.out, List.drop_eq_nil_of_le (by omega)]; rfl)
        cases b with
        | none =>
          have hR2 : Hid (R = none) := hid (by rw [← hr2.out, hb2.out])
          clear hr2 hb
          go_wp2
          go_ret2
          exact ⟨_, by rw [hR2.out]; rfl, by rw [hR2.out]; exact World.ownsRow_nil _ _ _ _, HI.out.ext.trans hW⟩
        | some y =>
          obtain rfl := hbv.out y rfl
          have hR2 : Hid (Rg.refOrd fr_ to_ l m (L.filter (fun y => decide (y ≠ bv))) (O ++ [bv]) = R) := hid (by rw [← hr2.out, hb2.out])
          have hmem := hid (((Rg.bestL_spec (freeP l L) L none).2 bv hb2.out).1.resolve_left (by simp)).1
          have hI' := HI.out.go hW
          obtain ⟨v2, w2, hrun, hown2, hgr2, _⟩ := app_int hI'.ot hI'.ext.le (by omega) 31 bv
          have hX2 : Ext w w2 := Ext.grown hI'.ext hgr2 (own_block hI'.ot)
          obtain ⟨A2, k2, e2, _, hC2⟩ := own_C (own_apart hI'.lf hgr2 hI'.ap)
          injection e2 with e2 _ e3
          subst e2; subst e3
          obtain ⟨kk, hkk⟩ := (without_evt L bv (by omega)).rounds
          have hO2 := hid hown2
          have hC3 := hid hC2
          clear hr2 hb hb2 hgr2 hown2 hC2 hI'
          go_wp2_with (go_at_call 113; (with_reducible refine (cartoucheref11_without.calls kk _ _ L bv _ w2 hC3.out hcL hkk).mono ?_); rintro e w3 ⟨v3, rfl, hR3, hx3⟩)
          clear hrun
          have hfl : (L.filter (fun y => decide (y ≠ bv))).length < L.length := by
            rcases Nat.lt_or_ge (L.filter (fun y => decide (y ≠ bv))).length L.length with z | z
            · exact z
            · have e := List.filter_eq_self.1 (List.filter_sublist.eq_of_length_le z) bv hmem.out
              simp at e
          go_roundg m
          case measure => omega
          case rel => exact ⟨_, _, by omega, by rw [List.length_append, List.length_singleton]; omega, ⟨hX2.trans hx3, YtebjiimlcnmfpaaGreatW.PrintWords.own_weaken (R_own hR3) hX2.le, own_ext hO2.out hX2.le hx3, fun k hk e => by
            have h1 := own_block (R_own hR3) k hk
            have h2 := YtebjiimlcnmfpaaGreatW.PrintWords.own_lt hO2.out k e
            omega⟩, hR2⟩
      have hdr := hid (show L.drop i = inth L i :: L.drop (i + 1) from ith_drop hlt)
      obtain ⟨x, hx⟩ : ∃ x, inth L i = x := ⟨_, rfl⟩
      rw [hx] at hdr
      have HX := hid hx
      clear hx
      go_wp2
      go_loopg [11, 12] l.length (fun n3 fr k W => ∃ (k' : Nat) (f : Bool), k' ≤ l.length ∧ l.length ≤ n3 + k' ∧ k = .int .i64 k' ∧ fr = .bool f ∧ Ext wr W ∧ Hid (f = (l.take k').all (freeS L x)))
      case atStart => exact ⟨0, true, by omega, by omega, rfl, rfl, Ext.refl _, hid rfl⟩
      case round =>
        obtain ⟨k, f, hk, hgk, rfl, rfl, hW2, hf⟩ := hrel
        have hW3 := hW.trans hW2
        have q0 := QL.out wr i hW3 hlt
        rw [HX.out] at q0
        by_cases hlt2 : k < l.length
        case neg =>
          have hfa : Hid (f = freeP l L x) := hid (by rw [hf.out, List.take_of_length_le (by omega), freeP_all])
          clear hf
          have hbs := hid (show Rg.bestL (freeP l L) (L.drop i) b = Rg.bestL (freeP l L) (L.drop (i + 1)) (if freeP l L x = true ∧ (∀ y, b = some y → x < y) then some x else b) from by rw [hdr.out]; rfl)
          rcases ord_w2 f b.isSome x bv with h1 | ⟨h1, h2⟩ | ⟨h1, h2, h3⟩ | ⟨h1, h2, h3⟩
          · have hno : Hid (¬ (freeP l L x = true ∧ (∀ y, b = some y → x < y))) := hid (fun z => by rw [← hfa.out, h1] at z; exact absurd z.1 (by simp))
            subst h1
            go_wp2
            go_roundg (L.length - (i + 1))
            case measure => omega
            case rel => exact ⟨i + 1, b, bv, by omega, by omega, by go_num, rfl, rfl, hW3, hbv, hid (by rw [← hb.out, hbs.out, if_neg hno.out])⟩
          · have hyes : Hid (freeP l L x = true ∧ (∀ y, b = some y → x < y)) := hid ⟨by rw [← hfa.out, h1], fun y hy => by rw [hy] at h2; cases h2⟩
            subst h1
            rw [h2]
            go_wp2
            go_roundg (L.length - (i + 1))
            case measure => omega
            case rel => exact ⟨i + 1, some x, x, by omega, by omega, by go_num, rfl, rfl, hW3, hid (fun y hy => by injection hy), hid (by rw [← hb.out, hbs.out, if_pos hyes.out])⟩
          · have hyes : Hid (freeP l L x = true ∧ (∀ y, b = some y → x < y)) := hid ⟨by rw [← hfa.out, h1], fun y hy => by rw [← hbv.out y hy]; exact h3⟩
            subst h1
            rw [h2]
            go_wp2
            go_roundg (L.length - (i + 1))
            case measure => omega
            case rel => exact ⟨i + 1, some x, x, by omega, by omega, by go_num, rfl, rfl, hW3, hid (fun y hy => by injection hy), hid (by rw [← hb.out, hbs.out, if_pos hyes.out])⟩
          · have hno : Hid (¬ (freeP l L x = true ∧ (∀ y, b = some y → x < y))) := hid (fun z => by
              cases b with
              | none => cases h2
              | some y => have := z.2 y rfl; rw [← hbv.out y rfl] at this; exact h3 this)
            subst h1
            rw [h2]
            go_wp2
            go_roundg (L.length - (i + 1))
            case measure => omega
            case rel => exact ⟨i + 1, b, bv, by omega, by omega, by go_num, rfl, by rw [h2], hW3, hbv, hid (by rw [← hb.out, hbs.out, if_neg hno.out])⟩
        obtain ⟨b1, o1, rfl, s0, s1⟩ := stl_opn HS.out (by omega) (by omega)
        have hXX := HI.out.ext.trans hW3
        have s0 := s0 wr k hXX hlt2
        have s1 := s1 wr k hXX hlt2
        have hst : Hid ((l.take (k + 1)).all (freeS L x) = (f && freeS L x (sn l k))) := hid (by rw [sn_take hlt2, List.all_append, hf.out]; simp)
        obtain ⟨kh, hkh⟩ := (has_evt L (fr_ (sn l k)) (by omega)).rounds
        obtain ⟨inn, hin⟩ : ∃ b, decide (fr_ (sn l k) ∈ L) = b := ⟨_, rfl⟩
        have hfs : Hid (freeS L x (sn l k) = !(decide (to_ (sn l k) = x) && inn)) := hid (by rw [← hin]; rfl)
        rw [hin] at hkh
        have HCW := hid (YtebjiimlcnmfpaaGreatW.PrintWords.Kd.C_below HCL.out hW3)
        clear hin hf
        rcases ord_w1 f inn (to_ (sn l k)) x with h1 | ⟨h1, h2⟩ | ⟨h1, h2, h3⟩ | ⟨h1, h2, h3⟩
        all_goals
          subst h1
          try subst h3
          try rw [h2] at s1
          go_wp2_with (go_at_call 112; (with_reducible refine (cartoucheref11_has.calls kh _ _ L _ _ _ HCW.out hcL hkh).mono ?_); rintro e1 w1 ⟨rfl, ⟨⟨n1, rfl⟩⟩⟩)
          go_quiet (fail)
          go_wp2
          go_roundg (l.length - (k + 1))
          case measure => omega
          case rel => exact ⟨k + 1, _, by omega, by omega, by go_num, rfl, hW2.drewN _, hid (by rw [hst.out, hfs.out]; first | rfl | (rw [h2]; simp; done) | (simp only [bne_iff_ne] at h2; rw [decide_eq_false h2]; rfl))⟩
def cartoucheref11_Order.f (l0 : List Int) (l1 : List (S80)) : Option (List Int × Bool) := if l0.length ≤ 1000000 ∧ l1.length ≤ 1000000 then some ((Rg.order fr_ to_ l1 l0).getD [], (Rg.order fr_ to_ l1 l0).isSome) else none
theorem cartoucheref11_Order.calls (A0 : Option Addr) (c0 : Nat) (l0 : List Int) (A1 : Option Addr) (c1 : Nat) (l1 : List (S80)) (r1 : List Int) (r2 : Bool) (w : World) (hr0 : YtebjiimlcnmfpaaGreatW.PrintWords.Kd.C (YtebjiimlcnmfpaaGreatW.PrintWords.Kd.int .i64) w A0 l0.length l0) (hc0 : l0.length ≤ c0) (hr1 : YtebjiimlcnmfpaaGreatW.PrintWords.Kd.C k80 w A1 l1.length l1) (hc1 : l1.length ≤ c1) (h : cartoucheref11_Order.f l0 l1 = some (r1, r2)) :
    Calls Tryz.prog 80 #[.slice A0 l0.length c0, .slice A1 l1.length c1] w fun e w' => ∃ v0_ : Value, e = .returned (.tuple #[v0_, .bool r2]) ∧ YtebjiimlcnmfpaaGreatW.PrintWords.Kd.R (YtebjiimlcnmfpaaGreatW.PrintWords.Kd.int .i64) 3 w' w.heap.size (fun _ => True) v0_ r1 ∧ Below w.heap.size w w' := by
  unfold cartoucheref11_Order.f at h
  split at h
  · rename_i hn
    simp only [Option.some.injEq, Prod.mk.injEq] at h
    obtain ⟨h1, h2⟩ := h
    refine (r11_order w A0 c0 l0 A1 c1 l1 hr0 hr1 hn.1 hn.2).mono fun e w' ⟨v, he, ho, hx⟩ => ⟨v, by rw [he, h2], ?_, hx⟩
    rw [h1] at ho
    have := r_of (YtebjiimlcnmfpaaGreatW.PrintWords.Kd.int .i64) 3 intCs (fun x => x) (fun _ _ _ _ => rfl) (fun _ => rfl) ho
    simpa using this
  · cases h
end
end Go.Proofs.YtebjiimlcnmfpaaGreatPr
