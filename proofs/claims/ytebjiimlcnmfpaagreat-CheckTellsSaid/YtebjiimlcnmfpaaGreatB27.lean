/-
  Ahead by hand, and an order in which all goes forward, by places.
-/
import Derived.Lib.QuietBelow
import Derived.Test.YtebjiimlcnmfpaaGreatS21
import Derived.Test.YtebjiimlcnmfpaaGreatPrCartoucheref10Nodes
import Derived.Test.YtebjiimlcnmfpaaGreatPrCartoucheref13Place
import Derived.Test.YtebjiimlcnmfpaaGreatS17
import Derived.Test.YtebjiimlcnmfpaaGreatS23
import Derived.Test.YtebjiimlcnmfpaaGreatS14
import Derived.Test.YtebjiimlcnmfpaaGreatB13
import Derived.Test.YtebjiimlcnmfpaaGreatB21
/-! An order in which all goes forward, by places. -/
set_option linter.unusedVariables false
set_option linter.unusedSimpArgs false
namespace Go.Proofs.YtebjiimlcnmfpaaGreatPr
section
open Go.Proofs.YtebjiimlcnmfpaaGreat
section
open Go Go.RowKit

/-- Do all steps go forward, by their places? -/
def fwdP (o : List Int) (l : List S80) : Bool := l.all fun s => decide (Rg.plc o (fr_ s) 0 < Rg.plc o (to_ s) 0)
/-- All of a row's places in another one. -/
def inP (o ns : List Int) : Bool := ns.all fun n => decide (0 ≤ Rg.plc o n 0)
theorem perm_of_len : ∀ (a b : List Int), a.Nodup → (∀ x ∈ a, x ∈ b) → b.length ≤ a.length → a.Perm b
  | [], b, _, _, hl => by
    obtain rfl : b = [] := List.eq_nil_of_length_eq_zero (by simpa using hl)
    exact List.Perm.refl _
  | x :: r, b, hn, hs, hl => by
    obtain ⟨h1, h2⟩ := List.nodup_cons.1 hn
    have hx := hs x List.mem_cons_self
    have hp := List.perm_cons_erase hx
    have he := hp.length_eq
    rw [List.length_cons] at he hl
    have ih := perm_of_len r (b.erase x) h2 (fun y hy => (List.mem_erase_of_ne (fun e => h1 (by rw [← e]; exact hy))).2 (hs y (List.mem_cons_of_mem _ hy))) (by omega)
    exact (List.Perm.cons x ih).trans hp.symm
theorem ahead_is (xs : List S50) (lev : Int) (o : List Int) : aheadS xs lev o = (decide ((nodesS (evs xs)).length = o.length) && (inP o (nodesS (evs xs)) && fwdP o (stepsH lev xs))) := by
  have hnn : (nodesS (evs xs)).Nodup := Rg.rising_nodup (nodesS_rising _)
  have pin : ∀ x, 0 ≤ Rg.plc o x 0 ↔ x ∈ o := fun x => by
    rcases Rg.plc_spec x o 0 with ⟨h1, h2⟩ | ⟨h1, h2⟩
    · rw [show ((0 : Nat) : Int) = 0 from rfl] at h2
      rw [h2]; simp [h1]
    · rw [show ((0 : Nat) : Int) = 0 from rfl] at h2
      rw [h2]; simp [h1]
  rw [Bool.eq_iff_iff]
  constructor
  · intro h
    obtain ⟨hnd, hm⟩ := aheadS_mem h
    have h1 := hnd.length_le_of_subset (fun x hx => (hm x).1 hx)
    have h2 := hnn.length_le_of_subset (fun x hx => (hm x).2 hx)
    rw [Bool.and_eq_true, Bool.and_eq_true]
    refine ⟨decide_eq_true (by omega), List.all_eq_true.2 fun x hx => decide_eq_true ((pin x).2 ((hm x).2 hx)), List.all_eq_true.2 fun s hs => decide_eq_true ?_⟩
    have hlt := aheadS_lt h hs
    have m1 := (hm _).2 (stepsH_nodes hs).1
    have m2 := (hm _).2 (stepsH_nodes hs).2
    rcases Rg.plc_spec (fr_ s) o 0 with ⟨g1, g2⟩ | ⟨g1, g2⟩
    · exact absurd m1 g1
    rcases Rg.plc_spec (to_ s) o 0 with ⟨f1, f2⟩ | ⟨f1, f2⟩
    · exact absurd m2 f1
    rw [show ((0 : Nat) : Int) = 0 from rfl] at g2 f2
    rw [g2, f2]
    omega
  · intro h
    rw [Bool.and_eq_true, Bool.and_eq_true] at h
    obtain ⟨h1, h2, h3⟩ := h
    have hlen := of_decide_eq_true h1
    have hin : ∀ x ∈ nodesS (evs xs), x ∈ o := fun x hx => (pin x).1 (of_decide_eq_true (List.all_eq_true.1 h2 x hx))
    have hp : (nodesS (evs xs)).Perm o := perm_of_len _ _ hnn hin (by omega)
    have hnd : o.Nodup := hp.nodup_iff.1 hnn
    refine aheadS_mk (Rg.rising_eq ?_ (nodesS_rising _) (fun x => ?_)) ((Rg.forward_iff fr_ to_).2 ⟨hnd, fun s hs m1 m2 => ?_⟩)
    · have hs : (o.mergeSort (fun x y => decide (x ≤ y))).Pairwise (fun a b => decide (a ≤ b) = true) := List.pairwise_mergeSort (fun a b c h1 h2 => by simp only [decide_eq_true_eq] at *; omega) (fun a b => by simp only [Bool.or_eq_true, decide_eq_true_eq]; omega) o
      have hn : (o.mergeSort (fun x y => decide (x ≤ y))).Nodup := (List.mergeSort_perm o _).nodup_iff.2 hnd
      exact (hs.and hn).imp fun ⟨h1, h2⟩ => by have := of_decide_eq_true h1; omega
    · rw [(List.mergeSort_perm o _).mem_iff, hp.mem_iff]
    · have := of_decide_eq_true (List.all_eq_true.1 h3 s hs)
      rcases Rg.plc_spec (fr_ s) o 0 with ⟨g1, g2⟩ | ⟨g1, g2⟩
      · exact absurd m1 g1
      rcases Rg.plc_spec (to_ s) o 0 with ⟨f1, f2⟩ | ⟨f1, f2⟩
      · exact absurd m2 f1
      rw [show ((0 : Nat) : Int) = 0 from rfl] at g2 f2
      rw [g2, f2] at this
      omega
end
end
end Go.Proofs.YtebjiimlcnmfpaaGreatPr

/-! The document's Ahead, walked by hand, and its contract in the words of the printed ones. -/
namespace Go.Proofs.YtebjiimlcnmfpaaGreatPr
section
open Go.Proofs.YtebjiimlcnmfpaaGreat
section
open Go Go.RowKit Go.Proofs Go.Shelf YtebjiimlcnmfpaaGreatW.PrintWords
set_option linter.unusedSimpArgs false
set_option linter.unusedVariables false
attribute [local go_sem] Ext.alloc Ext.alloc2 Ext.alloc3 Ext.alloc4 Ext.drewN_alloc Ext.drewN_alloc2 Ext.drew_alloc Ext.drew Ext.drewN toList_beq

theorem rdi (l : List Int) {i : Nat} (h : i < l.length) : rd l (i : Int) = l[i] := by
  unfold rd
  rw [Int.toNat_natCast, List.getD_eq_getElem?_getD, List.getElem?_eq_getElem h]; rfl
theorem pl_l0 (o : List Int) (x : Int) (hn : o.length ≤ 140737488351232) : ∀ (d i : Nat), i + d = o.length → Evt (fun k => cartoucheref13_place.l0 k o x (i : Int)) (Rg.plc (o.drop i) x (i : Int))
  | 0, i, hi => Evt.now1 fun k => by
    simp only [cartoucheref13_place.l0]
    rw [if_neg (by omega), List.drop_eq_nil_of_le (by omega)]
    rfl
  | d + 1, i, hi => by
    have hil : i < o.length := by omega
    rw [List.drop_eq_getElem_cons hil]
    by_cases h : o[i] = x
    · refine Evt.now1 fun k => ?_
      simp only [cartoucheref13_place.l0]
      rw [if_pos (by omega), if_pos (by omega), rdi o hil, if_pos h]
      unfold Rg.plc
      rw [if_pos h]
    · have ih := pl_l0 o x hn d (i + 1) (by omega)
      have e : Rg.plc (o[i] :: o.drop (i + 1)) x (i : Int) = Rg.plc (o.drop (i + 1)) x ((i + 1 : Nat) : Int) := by
        rw [Rg.plc, if_neg h]; rfl
      rw [e]
      refine Evt.step (fun k => ?_) ih
      simp only [cartoucheref13_place.l0]
      rw [if_pos (by omega), if_pos (by omega), rdi o hil, if_neg h, wrap_succ (n := o.length) hil hn]
theorem rplace_evt (o : List Int) (x : Int) (hn : o.length ≤ 140737488351232) : Evt (fun k => cartoucheref13_place.f k o x) (Rg.plc o x 0) := by
  have := pl_l0 o x hn o.length 0 (by omega)
  rw [List.drop_zero] at this
  exact this
/-- place, with what it needs. -/
theorem place_c {W : World} {A : Option Addr} {c : Nat} {o : List Int} (x : Int) (hn : o.length ≤ 140737488351232) (hc : o.length ≤ c) (hC : Kd.C (Kd.int .i64) W A o.length o) : Calls Tryz.prog 79 #[.slice A o.length c, .int .i64 x] W fun e w' => e = .returned (.int .i64 (Rg.plc o x 0)) ∧ ∃ n, w' = W.drewN n := by
  obtain ⟨k, hk⟩ := (rplace_evt o x hn).rounds
  exact (cartoucheref13_place.calls k A c o x _ W hC hc hk).mono fun e w' ⟨h1, ⟨⟨n, h2⟩⟩⟩ => ⟨h1, n, h2⟩
theorem place_x {W : World} {A : Option Addr} {c : Nat} {o : List Int} (x : Int) (hn : o.length ≤ 140737488351232) (hc : o.length ≤ c) (hC : Kd.C (Kd.int .i64) W A o.length o) : Calls Tryz.prog 79 #[.slice A o.length c, .int .i64 x] W fun e w' => e = .returned (.int .i64 (Rg.plc o x 0)) ∧ Ext W w' :=
  (place_c x hn hc hC).mono fun e w' ⟨h1, n, h2⟩ => ⟨h1, by rw [h2]; exact Ext.drewN (Ext.refl _) _⟩
set_option maxRecDepth 100000 in
set_option maxHeartbeats 8000000 in
theorem r13_ahead (w : World) (A B : Option Addr) (cap c : Nat) (xs : List S50) (lev : Int) (o : List Int) (hC : Kd.C k50 w A xs.length xs) (hcap : xs.length ≤ cap) (hO : Kd.C (Kd.int .i64) w B o.length o) (hoc : o.length ≤ c) (hn : xs.length ≤ 256) (hk : ∀ y ∈ xs, y.f2.size ≤ 9223372036854775807) (hT : ∀ i, i < xs.length → -1 ≤ (nth (evs xs) i).txn ∧ (nth (evs xs) i).txn < 300) (ho : o.length ≤ 140737488351232) :
    Calls Tryz.prog 41 #[.slice A xs.length cap, .int .i64 lev, .slice B o.length c] w fun e w' => e = .returned (.bool (aheadS xs lev o)) ∧ Ext w w' := by
  have hX := Ext.refl w
  have HC := hid hC
  have HO := hid hO
  have hnl := nodesS_len (evs xs)
  rw [evs_len] at hnl
  have HR := hid (ahead_is xs lev o)
  obtain ⟨R, hR⟩ : ∃ R, aheadS xs lev o = R := ⟨_, rfl⟩
  rw [hR] at HR ⊢
  obtain ⟨kn, hkn⟩ := (rnodes_evt xs (by omega) hT).rounds
  have hA : Hid (cartoucheref10_All.f xs = some (allE xs)) := hid (by unfold cartoucheref10_All.f; rw [if_pos ⟨by omega, hk⟩])
  have hal := allE_len2 xs
  have hS : Hid (cartoucheref10_Steps.f lev (allE xs) = some (stepsH lev xs)) := hid (by
    unfold cartoucheref10_Steps.f
    rw [if_pos (by have := Nat.mul_le_mul (show (allE xs).length ≤ 512 by omega) (show (allE xs).length + 1 ≤ 513 by omega); omega)]
    rfl)
  have hsl : (stepsH lev xs).length ≤ 140737488351232 := by have := stepsH_len lev xs (by omega); omega
  generalize nodesS (evs xs) = ns at *
  generalize stepsH lev xs = st at *
  clear hR hC hO hk hT hal
  go_enter Tryz.func41, Tryz.ntmps41
  by_cases hne : ns.length = o.length
  case neg =>
    have hneI : ((ns.length : Int) != (o.length : Int)) = true := bne_iff_ne.mpr (by omega)
    have hR2 : R = false := by rw [HR.out, decide_eq_false hne, Bool.false_and]
    subst hR2
    clear hne HR
    go_wp2_with (go_at_call 25; (with_reducible refine (cartoucheref10_Nodes.calls kn A cap xs ns _ HC.out hcap hkn).mono ?_); rintro e1 w1 ⟨v1, rfl, hR1, hx1⟩; obtain ⟨A1, c1, rfl, hc1, hC1⟩ := Kd.N_reads (Kd.R_N hR1); clear hR1 hC1)
    go_ret
    exact ⟨rfl, hx1⟩
  have hR2 : Hid (R = (inP o ns && fwdP o st)) := hid (by rw [HR.out, decide_eq_true hne, Bool.true_and])
  clear HR
  have hneI : ((ns.length : Int) != (o.length : Int)) = false := by rw [hne]; simp
  clear hne
  go_wp2_with (go_at_call 25; (with_reducible refine (cartoucheref10_Nodes.calls kn A cap xs ns _ HC.out hcap hkn).mono ?_); rintro e1 w1 ⟨v1, rfl, hR1, hx1⟩; obtain ⟨A1, c1, rfl, hc1, hC1⟩ := Kd.N_reads (Kd.R_N hR1); have HN := hid (nums_of hC1 (by omega)); clear hR1 hC1)
  clear hkn hneI
  go_loopg [8] ns.length (fun n_ i W => ∃ (k : Nat), k ≤ ns.length ∧ ns.length ≤ n_ + k ∧ i = .int .i64 k ∧ Ext w1 W ∧ Hid (inP o (ns.take k) = true))
  case atStart => exact ⟨0, by omega, by omega, rfl, Ext.refl _, hid rfl⟩
  case round =>
    obtain ⟨k, hk, hgk, rfl, hW, hin⟩ := hrel
    have hXW : Ext w wr := Ext.trans hx1 hW
    by_cases hlt : k < ns.length
    case pos =>
      obtain ⟨bn, on, rfl, qn⟩ := HN.out.opn (by omega)
      have c0 := qn wr k hW hlt
      obtain ⟨x, hx⟩ : ∃ x, inth ns k = x := ⟨_, rfl⟩
      rw [hx] at c0
      have hts : Hid (ns.take (k + 1) = ns.take k ++ [x]) := hid (by rw [List.take_succ_eq_append_getElem hlt, ← hx]; unfold inth; rw [List.getD_eq_getElem?_getD, List.getElem?_eq_getElem hlt]; rfl)
      have hxm : Hid (x ∈ ns) := hid (by rw [← hx]; unfold inth; rw [List.getD_eq_getElem?_getD, List.getElem?_eq_getElem hlt]; exact List.getElem_mem _)
      have HP := hid (place_c (W := wr) x ho hoc (C_go HO.out hXW))
      obtain ⟨p, hp⟩ : ∃ p, Rg.plc o x 0 = p := ⟨_, rfl⟩
      rw [hp] at HP
      have HPx := hid hp
      clear qn hx hp
      by_cases hp0 : p < 0
      · have hR3 := hid (show R = false from by
          rw [hR2.out, show inP o ns = false from ?_, Bool.false_and]
          unfold inP
          rw [List.all_eq_false]
          exact ⟨x, hxm.out, by rw [HPx.out]; simpa using hp0⟩)
        go_wp2_with (go_at_call 79; (with_reducible refine HP.out.mono ?_); rintro e2 w2 ⟨rfl, ⟨n2, rfl⟩⟩)
        go_ret
        exact ⟨ret_bool hR3.out.symm, hXW.drewN _⟩
      have hin2 := hid (show inP o (ns.take (k + 1)) = true from by
        have h1 := hin.out
        unfold inP at h1 ⊢
        rw [hts.out, List.all_append, h1, List.all_cons, HPx.out, decide_eq_true (by omega : (0 : Int) ≤ p)]
        rfl)
      go_wp2_with (go_at_call 79; (with_reducible refine HP.out.mono ?_); rintro e2 w2 ⟨rfl, ⟨n2, rfl⟩⟩)
      go_roundg (ns.length - (k + 1))
      case measure => omega
      case rel => exact ⟨k + 1, by omega, by omega, by go_num, hW.drewN _, hin2⟩
    have hR3 : Hid (R = fwdP o st) := hid (by
      have h1 := hin.out
      rw [List.take_of_length_le (by omega)] at h1
      rw [hR2.out, h1, Bool.true_and])
    clear hin hR2
    go_wp2_with first
      | (go_at_call 22; (with_reducible refine (cartoucheref10_All.calls A cap xs (allE xs) _ (C_go HC.out hXW) hcap hA.out).mono ?_); rintro e2 w2 ⟨v2, rfl, hR4, hx2⟩; have hY2 : Ext w w2 := hXW.trans hx2; obtain ⟨A2, c2, rfl, hc2, hC2⟩ := Kd.N_reads (Kd.R_N hR4); have D2 := hid hC2; clear hR4 hC2)
      | (go_at_call 69; (with_reducible refine (cartoucheref10_Steps.calls lev A2 c2 (allE xs) st _ D2.out hc2 hS.out).mono ?_); rintro e3 w3 ⟨v3, rfl, hN3, hx3⟩; have hY3 : Ext w w3 := hY2.trans hx3; obtain ⟨A3, c3, rfl, hc3, hC3⟩ := Kd.N_reads hN3; have D3 := hid hC3; clear hN3 hC3)
    go_loopg [10] st.length (fun n_ i W => ∃ (k : Nat), k ≤ st.length ∧ st.length ≤ n_ + k ∧ i = .int .i64 k ∧ Ext w3 W ∧ Hid (fwdP o (st.take k) = true))
    case atStart => exact ⟨0, by omega, by omega, rfl, Ext.refl _, hid rfl⟩
    case round =>
      obtain ⟨q, hq, hgq, rfl, hW2, hfw⟩ := hrel
      have hXW2 : Ext w wr := hY3.trans hW2
      by_cases hlt2 : q < st.length
      case neg =>
        have hR4 := hid (show R = true from by
          have h1 := hfw.out
          rw [List.take_of_length_le (by omega)] at h1
          rw [hR3.out, h1])
        go_wp2
        go_ret
        exact ⟨ret_bool hR4.out.symm, hXW2⟩
      obtain ⟨b3, o3, rfl, t0, t1⟩ := stl_opn D3.out hsl (by omega)
      have s0 := t0 wr q hW2 hlt2
      have s1 := t1 wr q hW2 hlt2
      obtain ⟨x0, hx0⟩ : ∃ x, fr_ (sn st q) = x := ⟨_, rfl⟩
      obtain ⟨x1, hx1⟩ : ∃ x, to_ (sn st q) = x := ⟨_, rfl⟩
      rw [hx0] at s0
      rw [hx1] at s1
      have HP0 := hid (fun x W (h : Ext w W) => place_x (W := W) x ho hoc (C_go HO.out h))
      have HPx := hid (And.intro hx0 hx1)
      have hsm := hid (sn_mem hlt2)
      have hst := hid (show st.take (q + 1) = st.take q ++ [sn st q] from by rw [List.take_succ_eq_append_getElem hlt2, sn_get hlt2])
      clear t0 t1 hx0 hx1
      by_cases hge : Rg.plc o x1 0 ≤ Rg.plc o x0 0
      · have hR4 := hid (show R = false from by
          rw [hR3.out]
          unfold fwdP
          rw [List.all_eq_false]
          exact ⟨_, hsm.out, by rw [HPx.out.1, HPx.out.2]; simpa using hge⟩)
        go_wp2
        replace s0 := cell_regrown s0
        replace s1 := cell_regrown s1
        refine wp_region_quiet_below (by kernel_rfl) (by kernel_rfl) ?_
        repeat (go_big_quiet_step (first | (go_at_call 79; exact Calls.regrown_of (HP0.out _ _ (hXW2.trans (below_regrown _ _ _))))))
        refine wpQuiet_nil ?_
        intro _ hw'
        obtain ⟨⟨nq, osq⟩, hw''⟩ := hw'
        subst hw''
        have hx5 : Ext wr _ := below_regrown wr nq osq
        go_wp2
        go_ret
        exact ⟨ret_bool hR4.out.symm, hXW2.trans hx5⟩
      have hfw2 := hid (show fwdP o (st.take (q + 1)) = true from by
        have h1 := hfw.out
        unfold fwdP at h1 ⊢
        rw [hst.out, List.all_append, h1, List.all_cons, HPx.out.1, HPx.out.2, decide_eq_true (by omega : Rg.plc o x0 0 < Rg.plc o x1 0)]
        rfl)
      go_wp2
      replace s0 := cell_regrown s0
      replace s1 := cell_regrown s1
      refine wp_region_quiet_below (by kernel_rfl) (by kernel_rfl) ?_
      repeat (go_big_quiet_step (first | (go_at_call 79; exact Calls.regrown_of (HP0.out _ _ (hXW2.trans (below_regrown _ _ _))))))
      refine wpQuiet_nil ?_
      intro _ hw'
      obtain ⟨⟨nq, osq⟩, hw''⟩ := hw'
      subst hw''
      have hx5 : Ext wr _ := below_regrown wr nq osq
      go_wp2
      go_roundg (st.length - (q + 1))
      case measure => omega
      case rel => exact ⟨q + 1, by omega, by omega, by go_num, hW2.trans hx5, hfw2⟩
def cartoucheref13_Ahead.f (l0 : List (S50)) (a1 : Int) (l2 : List Int) : Option (Bool) := if l0.length ≤ 256 ∧ (∀ y ∈ l0, y.f2.size ≤ 9223372036854775807) ∧ (∀ y ∈ l0, -1 ≤ y.f1 ∧ y.f1 < 300) ∧ l2.length ≤ 140737488351232 then some (aheadS l0 a1 l2) else none
theorem nth_txn {xs : List S50} {i : Nat} (hi : i < xs.length) : (nth (evs xs) i).txn = (xs[i]).f1 := by
  unfold nth evs
  rw [List.getD_eq_getElem?_getD, List.getElem?_map, List.getElem?_eq_getElem hi]; rfl
theorem cartoucheref13_Ahead.calls (A0 : Option Addr) (c0 : Nat) (l0 : List (S50)) (a1 : Int) (A2 : Option Addr) (c2 : Nat) (l2 : List Int) (r : Bool) (w : World) (hr0 : Kd.C k50 w A0 l0.length l0) (hc0 : l0.length ≤ c0) (hr2 : Kd.C (Kd.int .i64) w A2 l2.length l2) (hc2 : l2.length ≤ c2) (h : cartoucheref13_Ahead.f l0 a1 l2 = some r) :
    Calls Tryz.prog 41 #[.slice A0 l0.length c0, .int .i64 a1, .slice A2 l2.length c2] w fun e w' => e = .returned (.bool r) ∧ Below w.heap.size w w' := by
  unfold cartoucheref13_Ahead.f at h
  split at h
  · rename_i hn
    injection h with h
    subst h
    exact r13_ahead w A0 A2 c0 c2 l0 a1 l2 hr0 hc0 hr2 hc2 hn.1 hn.2.1 (fun i hi => by rw [nth_txn hi]; exact hn.2.2.1 _ (List.getElem_mem hi)) hn.2.2.2
  · cases h
theorem rahead_f {l : List S50} {lev : Int} {o : List Int} (hn : l.length ≤ 256) (hS : ∀ y ∈ l, EvS y) (hT : ∀ i, i < l.length → -1 ≤ (nth (evs l) i).txn ∧ (nth (evs l) i).txn < 300) (ho : o.length ≤ 140737488351232) : cartoucheref13_Ahead.f l lev o = some (aheadS l lev o) := by
  unfold cartoucheref13_Ahead.f
  rw [if_pos ⟨hn, fun y hy => (hS y hy).2.2.1, fun y hy => by
    obtain ⟨i, hi, rfl⟩ := List.getElem_of_mem hy
    rw [← nth_txn hi]; exact hT i hi, ho⟩]
end
end
end Go.Proofs.YtebjiimlcnmfpaaGreatPr
