/-
  The program's check.Ahead, and its contract in the words of the printed ones.
-/
import Derived.Test.YtebjiimlcnmfpaaGreatA31
import Derived.Test.YtebjiimlcnmfpaaGreatB1
import Derived.Test.YtebjiimlcnmfpaaGreatS16a
set_option linter.unusedVariables false
set_option linter.unusedSimpArgs false
namespace Go.Proofs.YtebjiimlcnmfpaaGreatPr
open Go.Proofs.YtebjiimlcnmfpaaGreat
section
open Go Go.RowKit Go.Proofs Go.Shelf Go.Maps
set_option linter.unusedSimpArgs false
set_option linter.unusedVariables false
attribute [local go_sem] Ext.alloc Ext.alloc2 Ext.alloc3 Ext.alloc4 Ext.drewN_alloc Ext.drewN_alloc2 Ext.drew_alloc Ext.drew Ext.drewN toList_beq

theorem look_plain {w : World} {b n : Nat} {f : Int → Option Value} (h : IMap w b n f) {y : Int} (hy : I64 y) {v : Value} (hv : (f y).getD (.int .i64 0) = v) : ∀ (W : World), Ext w W → (Instr.lookup 103 (.map (some b)) (.int .i64 y) false).run Tryz.prog W = .ok v W := fun W hx => by
  rw [IMap.look (h.ext hx) Tryz.underlying103 (Tryz.zeroValue3 W) hy, hv]
set_option maxHeartbeats 2000000 in
theorem r_ahd1 (W : World) (x : Stp) (bp b nn : Nat) (o : List Int) (hx : I64 x.fr ∧ I64 x.to_) (h1 : 0 ≤ Rg.plc o x.fr 0) (h2 : 0 ≤ Rg.plc o x.to_ 0) (hp : ∀ V, Ext W V → V.cell? ⟨bp, 0, none⟩ = some (.map (some b))) (hM : IMap W b nn (placeF o)) :
    Calls Tryz.prog 77 #[.agg #[.int .i64 x.fr, .int .i64 x.to_, .slice x.ad x.len x.cap], .pointer (some ⟨bp, 0, none⟩)] W fun e w' => e = .returned (.bool (backward o x)) ∧ Ext W w' := by
  have hX := Ext.refl W
  have HS : Hid (backward o x = decide (Rg.plc o x.to_ 0 ≤ Rg.plc o x.fr 0)) := hid (by unfold backward; simp [h1, h2])
  have e1 := (placeF_yes (o := o) (y := x.fr) h1).1
  have e2 := (placeF_yes (o := o) (y := x.to_) h2).1
  have r1 := look_plain hM hx.1 e1
  have r2 := look_plain hM hx.2 e2
  clear e1 e2 hM hx h1 h2
  go_enter Tryz.func77, Tryz.ntmps77
  go_wp2
  go_ret
  exact ⟨ret_bool (by rw [HS.out]), (by repeat (first | assumption | apply Ext.alloc | apply Ext.drewN | apply Ext.drew | (refine Ext.setCell (by simp <;> omega) ?_ _)))⟩

/-- Is an order one in which all goes forward? -/
def aheadS (xs : List S50) (lev : Int) (o : List Int) : Bool := decide (o.mergeSort (fun x y => decide (x ≤ y)) = nodesS (evs xs)) && Rg.forward fr_ to_ (stepsH lev xs) o
theorem nodesS_rising (l : List Ev) : (nodesS l).Pairwise (· < ·) := Rg.sortD_rising _
theorem sorted_nodup {o ns : List Int} (h : o.mergeSort (fun x y => decide (x ≤ y)) = ns) (hn : ns.Pairwise (· < ·)) : o.Nodup ∧ ∀ x, x ∈ o ↔ x ∈ ns := by
  have hp := List.mergeSort_perm o (fun x y => decide (x ≤ y))
  rw [h] at hp
  exact ⟨hp.nodup (Rg.rising_nodup hn), fun x => hp.mem_iff.symm⟩
theorem ints_below {W : World} {B : Option Addr} {m c : Nat} {o : List Int} (hO : Nums W B m o) : Below.ints W.heap.size W (.slice B m c) o := by
  have hl := hO.len
  rcases Nat.eq_zero_or_pos m with h0 | h0
  · subst h0
    exact .inl ⟨B, c, rfl, List.eq_nil_of_length_eq_zero (by omega)⟩
  · obtain ⟨b, oo, rfl, hc⟩ := hO.opn h0
    refine .inr ⟨b, oo, c, by rw [hl], block_lt_of_cell (hc W 0 (Ext.refl W) h0), fun j hj => hc W j (Ext.refl W) (by omega)⟩
theorem own_nums {W : World} {base : Nat} {v : Value} {vs : List Int} (h : W.ownsRow base 3 1 v vs.length (vs.flatMap intCs)) (hb : vs.length ≤ 140737488351232) : ∃ A c, v = .slice A vs.length c ∧ Nums W A vs.length vs := by
  obtain ⟨A', c', e, hs⟩ := sl_of_own (l := vs) (c := intCs) (z := (0 : Int)) (hc := fun _ => rfl) h hb
  exact ⟨A', c', e, hs⟩
theorem ahd_on {Q : S80 → List Value → Prop} {V : World} {L : List (Bth Q)} {ys : List S80} {o ns : List Int} {bp b nn : Nat} (x : Stp) (hx : x ∈ L.map Bth.s) (hok : ∀ y ∈ ys, IntS y.f0 ∧ IntS y.f1) (hin : ∀ y, y ∈ ys → fr_ y ∈ ns ∧ to_ y ∈ ns) (hm : ∀ x, x ∈ o ↔ x ∈ ns) (hL : L.map Bth.t = ys) (hp : ∀ U, Ext V U → U.cell? ⟨bp, 0, none⟩ = some (.map (some b))) (hM : IMap V b nn (placeF o)) :
    Calls Tryz.prog 77 #[.agg #[.int .i64 x.fr, .int .i64 x.to_, .slice x.ad x.len x.cap], .pointer (some ⟨bp, 0, none⟩)] V fun e w' => e = .returned (.bool (backward o x)) ∧ Ext V w' := by
  obtain ⟨z, hz, rfl⟩ := List.mem_map.1 hx
  have hy : z.t ∈ ys := by rw [← hL]; exact List.mem_map.2 ⟨z, hz, rfl⟩
  have h1 := hin _ hy
  exact r_ahd1 V z.s bp b nn o (both_wf (by rw [hL]; exact hok) z.s hx) (plc_mem.2 ((hm _).2 (by rw [z.hf]; exact h1.1))) (plc_mem.2 ((hm _).2 (by rw [z.ht]; exact h1.2))) hp hM
set_option maxRecDepth 100000 in
set_option maxHeartbeats 4000000 in
theorem c_ahead (w : World) (A B : Option Addr) (cap m c : Nat) (xs : List S50) (lev : Int) (o : List Int) (hC : YtebjiimlcnmfpaaGreatW.PrintWords.Kd.C k50 w A xs.length xs) (hcap : xs.length ≤ cap) (hn : xs.length ≤ 300) (hS : ∀ y ∈ xs, EvS y) (hO : Nums w B m o) (ho : ∀ x ∈ o, I64 x) (h8 : m * 8 ≤ 140737488351232) :
    Calls Tryz.prog 40 #[.slice A xs.length cap, .int .i64 lev, .slice B m c] w fun e w' => e = .returned (.bool (aheadS xs lev o)) ∧ Ext w w' := by
  have hX := Ext.refl w
  have hbig2 := hO.big
  have hol := hid (Sl.len hO)
  have HO := hid hO
  have HIo := hid ho
  have HC := hid hC
  have HE := hid (evs_of hC (by omega))
  obtain ⟨kk, hkk⟩ := (all_evt xs hn hS).rounds
  have HK := hid hkk
  have hAl := allE_len xs hn
  have hSt := hid (show edges_Steps.f lev (allE xs) = some (stepsH lev xs) by
    unfold edges_Steps.f
    rw [if_pos (by have := Nat.mul_le_mul hAl (show (allE xs).length + 1 ≤ 900001 by omega); omega)]
    rfl)
  have hSl := stepsH_len lev xs hn
  have HSok := hid (stepsOk_iff.1 (stepsH_ok (lev := lev) hS))
  have hSN := hid (fun y (h : y ∈ stepsH lev xs) => stepsH_nodes h)
  have hnl : (nodesS (evs xs)).length ≤ 140737488351232 := by have := nodesS_len (evs xs); rw [evs_len] at this; omega
  clear hC hO ho hkk hS
  go_enter Tryz.func40, Tryz.ntmps40
  obtain ⟨q, hq⟩ : ∃ q, decide (o.mergeSort (fun x y => decide (x ≤ y)) = nodesS (evs xs)) = q := ⟨_, rfl⟩
  have HQ := hid hq
  clear hq
  cases q
  case false =>
    go_wp2_with first
      | (go_at_call 75; refine (vals_call B m c w).mono ?_; rintro e w1 ⟨rfl, rfl⟩)
      | (go_at_call 74; go_loud (refine (sortedVals_call w.heap.size (.slice B m c) o (by rw [hol.out]; exact h8) _ (by simp) (Blk.new w 31 #[.slice B m c]).cell0 (ints_below (HO.out.ext ((Ext.refl w).alloc _)))).mono ?_); rintro e w2 ⟨v2, rfl, hrow2, hx2⟩; rw [encZ_flat, ← List.length_mergeSort (le := fun x y => decide (x ≤ y))] at hrow2; obtain ⟨A2, c2, rfl, hN2⟩ := own_nums hrow2 (by rw [List.length_mergeSort, hol.out]; exact hbig2); rw [List.length_mergeSort] at hN2; have hX2 : Ext w w2 := ((Ext.refl w).alloc _).trans hx2)
      | (go_at_call 24; (with_reducible refine (e_nodes _ A xs.length cap (evs xs) (HE.out.ext hX2) (by omega) hcap).mono ?_); rintro e w3 ⟨v3, rfl, hrow3, hx3⟩; obtain ⟨A3, c3, rfl, hN3⟩ := own_nums hrow3 hnl; have hX3 : Ext w w3 := hX2.trans hx3)
      | (go_at_call 76; (with_reducible refine (eq_ints _ A2 A3 _ _ c2 c3 _ _ (hN2.ext hx3) hN3).mono ?_); rintro e w4 ⟨rfl, hx4⟩; rw [HQ.out]; have hX4 : Ext w w4 := hX3.trans hx4)
    go_ret
    exact ⟨ret_bool (by unfold aheadS; rw [HQ.out]; rfl), hX4⟩
  have hpq := hid (sorted_nodup (of_decide_eq_true HQ.out) (nodesS_rising (evs xs)))
  have hmm := @run_makeMap Tryz.prog
  go_wp2_with first
    | (go_at_call 75; refine (vals_call B m c w).mono ?_; rintro e w1 ⟨rfl, rfl⟩)
    | (go_at_call 74; go_loud (refine (sortedVals_call w.heap.size (.slice B m c) o (by rw [hol.out]; exact h8) _ (by simp) (Blk.new w 31 #[.slice B m c]).cell0 (ints_below (HO.out.ext ((Ext.refl w).alloc _)))).mono ?_); rintro e w2 ⟨v2, rfl, hrow2, hx2⟩; rw [encZ_flat, ← List.length_mergeSort (le := fun x y => decide (x ≤ y))] at hrow2; obtain ⟨A2, c2, rfl, hN2⟩ := own_nums hrow2 (by rw [List.length_mergeSort, hol.out]; exact hbig2); rw [List.length_mergeSort] at hN2; have hX2 : Ext w w2 := ((Ext.refl w).alloc _).trans hx2)
    | (go_at_call 24; (with_reducible refine (e_nodes _ A xs.length cap (evs xs) (HE.out.ext hX2) (by omega) hcap).mono ?_); rintro e w3 ⟨v3, rfl, hrow3, hx3⟩; obtain ⟨A3, c3, rfl, hN3⟩ := own_nums hrow3 hnl; have hX3 : Ext w w3 := hX2.trans hx3)
    | (go_at_call 76; (with_reducible refine (eq_ints _ A2 A3 _ _ c2 c3 _ _ (hN2.ext hx3) hN3).mono ?_); rintro e w4 ⟨rfl, hx4⟩; rw [HQ.out]; have hX4 : Ext w w4 := hX3.trans hx4)
  have hB := Blk.new (w4.alloc (.map #[] 0)) 103 #[.map (some w4.heap.size)]
  simp only [World.size_alloc] at hB
  have hmade := hid ((IMap.made w4).ext ((Ext.refl (w4.alloc (.map #[] 0))).alloc (.cells #[.map (some w4.heap.size)] 103)))
  have HB := hid hB
  clear hB hx2 hrow2 hN2 hX2 hx3 hrow3 hN3 hX3 hx4
  go_loopw [23] (fun i W => Ext w4 W ∧ ∃ k : Nat, k ≤ m ∧ i = .int .i64 k ∧ Blk W (w4.heap.size + 1) 103 #[.map (some w4.heap.size)] ∧ IMap W w4.heap.size k (placeF (o.take k))) (fun i _ => m - (RowKit.intOf i).toNat)
  case atStart => exact ⟨((Ext.refl w4).alloc _).alloc _, 0, by omega, rfl, HB.out, hmade.out.congr fun x => by simp [placeF, Rg.plc]⟩
  case round =>
    obtain ⟨hW, k, hk1, rfl, hb, hr⟩ := hrel
    have hbc := hb.cell0
    have hXr := Ext.refl wr
    have hWr : Ext w wr := hX4.trans hW
    by_cases hlt : k < m
    · obtain ⟨bb, oo, rfl, h0⟩ := HO.out.opn (by omega)
      have hts := hid (take_snoc' (l := o) (k := k) (by rw [hol.out]; exact hlt))
      have hin : Hid (I64 (inth o k)) := hid (HIo.out _ (by unfold inth; rw [List.getD_eq_getElem?_getD, List.getElem?_eq_getElem (by rw [hol.out]; exact hlt)]; exact List.getElem_mem _))
      have hp : Hid (inth o k ∉ o.take k) := hid (fun hm => by
        have h2 := hpq.out.1.sublist (List.take_sublist (k + 1) o)
        rw [hts.out] at h2
        exact (List.nodup_append.1 h2).2.2 _ hm _ (by simp) rfl)
      have hlen : Hid ((o.take k).length = k) := hid (by rw [List.length_take, hol.out]; omega)
      have hps := hid (fun y => placeF_snoc hp.out y)
      have x0 := h0 wr k hWr hlt
      clear h0
      go_wp2_with (at_mapUpdate; refine wp_put rfl _ _ _ 103 3 rfl Tryz.underlying103 rfl hr (by unfold maxLen; omega) (inth o k) (.int .i64 k) rfl rfl hin.out ?_; intro w1 hown1 hgrow1)
      have hb1 := hb.grown hgrow1 (by simp)
      have hnew : Hid (IMap w1 w4.heap.size (k + 1) (placeF (o.take (k + 1)))) := hid (hown1.congr fun y => by rw [hts.out, ← hps.out y, hlen.out])
      go_wp2
      go_roundw
      case rel => exact ⟨Ext.grown hW hgrow1 (fun j e => by cases e; exact Nat.le_refl _), k + 1, by omega, by go_num, hb1, hnew.out⟩
      case measure => simp [RowKit.intOf]; omega
    · have hkn : Hid (o.take k = o) := hid (List.take_of_length_le (by rw [hol.out]; omega))
      have hr' := hid (show IMap wr w4.heap.size k (placeF o) by have := hr; rwa [hkn.out] at this)
      have HCr := hid (YtebjiimlcnmfpaaGreatW.PrintWords.Kd.C_below HC.out hWr)
      have hbl := hid (fun U (hU : Ext wr U) => hU.cell hbc)
      clear hr
      go_wp2_with first
        | (go_at_call 21; (with_reducible refine (edges_All.calls kk A cap xs (allE xs) _ HCr.out hcap HK.out).mono ?_); rintro e w5 ⟨v5, rfl, hR5, hx5⟩; obtain ⟨A5, c5, rfl, hc5, hC5⟩ := YtebjiimlcnmfpaaGreatW.PrintWords.Kd.N_reads (YtebjiimlcnmfpaaGreatW.PrintWords.Kd.R_N hR5))
        | (go_at_call 65; (with_reducible refine (edges_Steps.calls lev A5 c5 (allE xs) (stepsH lev xs) _ hC5 hc5 hSt.out).mono ?_); rintro e w6 ⟨v6, rfl, hN6, hx6⟩; obtain ⟨A6, c6, rfl, hc6, hC6⟩ := YtebjiimlcnmfpaaGreatW.PrintWords.Kd.N_reads hN6; obtain ⟨L, hL, hS6⟩ := both (Q := k80.K w6) (fun x c hx => by obtain ⟨A2, c2, hc, _, _⟩ := k80_open hx; exact ⟨A2, c2, hc⟩) hC6 (by omega); have hX6 : Ext wr w6 := Ext.trans hx5 hx6)
        | (go_at_call 78; refine (containsStp 77 #[.pointer (some ⟨w4.heap.size + 1, 0, none⟩)] (backward o) _ A6 _ c6 (L.map Bth.s) hS6 (enters_of Tryz.func77 (by kernel_rfl) rfl) (fun V x hx hV => ahd_on x hx (HSok.out) (hSN.out) (hpq.out.2) hL (fun U hU => hbl.out U ((hX6.trans hV).trans hU)) (hr'.out.ext (hX6.trans hV)))).mono ?_; rintro e w7 ⟨rfl, hx7⟩)
      have HR : Hid (aheadS xs lev o = !((L.map Bth.s).any (backward o))) := hid (by
        unfold aheadS
        rw [HQ.out, Bool.true_and, ← hL, ← both_forward]
        unfold Rg.forward backward
        rw [decide_eq_true hpq.out.1, Bool.true_and]
        exact all_not _ _)
      go_ret
      exact ⟨ret_bool (by rw [HR.out, List.any_map]), hWr.trans (hX6.trans hx7)⟩
def check_Ahead.f (l0 : List (S50)) (a1 : Int) (l2 : List Int) : Option (Bool) := if l0.length ≤ 300 ∧ evsOk l0 = true ∧ l2.length * 8 ≤ 140737488351232 ∧ intsOk l2 = true then some (aheadS l0 a1 l2) else none
theorem check_Ahead.calls (A0 : Option Addr) (c0 : Nat) (l0 : List (S50)) (a1 : Int) (A2 : Option Addr) (c2 : Nat) (l2 : List Int) (r : Bool) (w : World) (hr0 : YtebjiimlcnmfpaaGreatW.PrintWords.Kd.C k50 w A0 l0.length l0) (hc0 : l0.length ≤ c0) (hr2 : YtebjiimlcnmfpaaGreatW.PrintWords.Kd.C (YtebjiimlcnmfpaaGreatW.PrintWords.Kd.int .i64) w A2 l2.length l2) (hc2 : l2.length ≤ c2) (h : check_Ahead.f l0 a1 l2 = some r) :
    Calls Tryz.prog 40 #[.slice A0 l0.length c0, .int .i64 a1, .slice A2 l2.length c2] w fun e w' => e = .returned (.bool r) ∧ Below w.heap.size w w' := by
  unfold check_Ahead.f at h
  split at h
  · rename_i hn
    injection h with h
    subst h
    exact c_ahead w A0 A2 c0 l2.length c2 l0 a1 l2 hr0 hc0 hn.1 (evsOk_iff.1 hn.2.1) (nums_of hr2 (by omega)) (intsOk_iff.1 hn.2.2.2) hn.2.2.1
  · cases h
end
end Go.Proofs.YtebjiimlcnmfpaaGreatPr
