/-
  The document's Good, walked by hand: the table of who reaches whom; and its contract in the words of the printed ones.
-/
import Derived.Test.YtebjiimlcnmfpaaGreatS31
import Derived.Test.YtebjiimlcnmfpaaGreatS17
import Derived.Test.YtebjiimlcnmfpaaGreatS23
import Derived.Test.YtebjiimlcnmfpaaGreatS14
import Derived.Test.YtebjiimlcnmfpaaGreatB13
import Derived.Test.YtebjiimlcnmfpaaGreatB21
import Derived.Test.YtebjiimlcnmfpaaGreatPrCartoucheref09All
set_option linter.unusedVariables false
set_option linter.unusedSimpArgs false
namespace Go.Proofs.YtebjiimlcnmfpaaGreatPr
open Go.Proofs.YtebjiimlcnmfpaaGreat
section
open Go Go.RowKit Go.Proofs Go.Shelf
set_option linter.unusedSimpArgs false
set_option linter.unusedVariables false
attribute [local go_sem] Ext.alloc Ext.alloc2 Ext.alloc3 Ext.alloc4 Ext.drewN_alloc Ext.drewN_alloc2 Ext.drew_alloc Ext.drew Ext.drewN toList_beq

theorem zc64 : Tryz.zeroCells95 = toT (fun _ _ => false) := by
  rw [← toT_zero]
  kernel_rfl
set_option maxRecDepth 100000 in
set_option maxHeartbeats 8000000 in
theorem r12_good (w : World) (A : Option Addr) (cap : Nat) (l : List S50) (lev : Int) (hC : YtebjiimlcnmfpaaGreatW.PrintWords.Kd.C k50 w A l.length l) (hcap : l.length ≤ cap) (hf : (formed (evs l)).2 = 0) (hk : ∀ y ∈ l, y.f2.size ≤ 9223372036854775807) :
    Calls Tryz.prog 34 #[.slice A l.length cap, .int .i64 lev] w fun e w' => e = .returned (.bool (goodB l lev)) ∧ Ext w w' := by
  have hw := formed_wf hf
  have hn : l.length ≤ 256 := by have := hw.len; rwa [evs_len] at this
  obtain ⟨kb, hkb⟩ := (bads_evt l (by omega)).rounds
  have C0 := hid hC
  go_enter Tryz.func34, Tryz.ntmps34
  by_cases hb : badsS l = []
  case neg =>
    have hl0 : 0 < (badsS l).length := List.length_pos_iff.2 hb
    have hR := hid (goodB_bad (lev := lev) hb)
    clear hb hf hw
    go_wp2_with (go_at_call 68; (with_reducible refine (cartoucheref09_All.calls kb A cap l (badsS l) _ C0.out hcap hkb).mono ?_); rintro e1 w1 ⟨v1, rfl, hR1, hx1⟩; have hY1 : Ext w w1 := hx1; obtain ⟨A1, c1, rfl, hc1, hC1⟩ := YtebjiimlcnmfpaaGreatW.PrintWords.Kd.N_reads (YtebjiimlcnmfpaaGreatW.PrintWords.Kd.R_N hR1); clear hR1 hC1)
    go_ret
    exact ⟨ret_bool hR.out.symm, hY1⟩
  have hA : Hid (cartoucheref10_All.f l = some (allE l)) := hid (by unfold cartoucheref10_All.f; rw [if_pos ⟨by omega, hk⟩])
  have hal := allE_len2 l
  have hS : Hid (cartoucheref10_Steps.f lev (allE l) = some (stepsH lev l)) := hid (by
    unfold cartoucheref10_Steps.f
    rw [if_pos (by have := Nat.mul_le_mul (show (allE l).length ≤ 512 by omega) (show (allE l).length + 1 ≤ 513 by omega); omega)]
    rfl)
  have hsl : (stepsH lev l).length ≤ 140737488351232 := by have := stepsH_len lev l (by omega); omega
  have hin : ∀ s ∈ stepsH lev l, (∃ p : Nat, p < 64 ∧ fr_ s = p) ∧ ∃ p : Nat, p < 64 ∧ to_ s = p := fun s hs => by
    have hcom : ∀ t : Int, t ∈ nodesS (evs l) → ∃ p : Nat, p < 64 ∧ t = (p : Int) := fun t ht => by
      obtain ⟨c1, c2, _⟩ := comOf_end (mem_nodes.1 ht)
      obtain ⟨u, hu, hul, hut, _⟩ := endOf_place c1
      have := wf_txn hw (i := u) hul
      exact ⟨t.toNat, by omega, by omega⟩
    exact ⟨hcom _ (stepsH_nodes hs).1, hcom _ (stepsH_nodes hs).2⟩
  have hIN := hid hin
  have hB0 := hid hb
  have hg := hid (goodB_ring (lev := lev) hb)
  obtain ⟨st, hst⟩ : ∃ st, stepsH lev l = st := ⟨_, rfl⟩
  rw [hst] at hS hsl hIN hg
  rw [hb] at hkb
  clear hb hf hw hin hst hal hk
  go_wp2_with first
    | (go_at_call 68; (with_reducible refine (cartoucheref09_All.calls kb A cap l [] _ C0.out hcap hkb).mono ?_); rintro e1 w1 ⟨v1, rfl, hR1, hx1⟩; have hY1 : Ext w w1 := hx1; have C1 := hid (YtebjiimlcnmfpaaGreatW.PrintWords.Kd.C_below C0.out hY1); obtain ⟨A1, c1, rfl, hc1, hC1⟩ := YtebjiimlcnmfpaaGreatW.PrintWords.Kd.N_reads (YtebjiimlcnmfpaaGreatW.PrintWords.Kd.R_N hR1); clear hR1 hC1)
    | (go_at_call 22; (with_reducible refine (cartoucheref10_All.calls A cap l (allE l) _ C1.out hcap hA.out).mono ?_); rintro e2 w2 ⟨v2, rfl, hR2, hx2⟩; have hY2 : Ext w w2 := hY1.trans hx2; obtain ⟨A2, c2, rfl, hc2, hC2⟩ := YtebjiimlcnmfpaaGreatW.PrintWords.Kd.N_reads (YtebjiimlcnmfpaaGreatW.PrintWords.Kd.R_N hR2); have D2 := hid hC2; clear hR2 hC2)
    | (go_at_call 69; (with_reducible refine (cartoucheref10_Steps.calls lev A2 c2 (allE l) st _ D2.out hc2 hS.out).mono ?_); rintro e3 w3 ⟨v3, rfl, hN3, hx3⟩; have hY3 : Ext w w3 := hY2.trans hx3; obtain ⟨A3, c3, rfl, hc3, hC3⟩ := YtebjiimlcnmfpaaGreatW.PrintWords.Kd.N_reads hN3; have D3 := hid hC3; clear hN3 hC3)
  have hb7 := Blk.new w3 95 Tryz.zeroCells95
  have hE7 := (Ext.refl w3).alloc (.cells Tryz.zeroCells95 95)
  rw [zc64] at hb7 hE7 ⊢
  obtain ⟨w7, hw7⟩ : ∃ W, w3.alloc (.cells (toT (fun _ _ => false)) 95) = W := ⟨_, rfl⟩
  rw [hw7] at hb7 hE7 ⊢
  clear hw7
  obtain ⟨g, hgz⟩ : ∃ g, w3.heap.size = g := ⟨_, rfl⟩
  have hgl : Hid (w3.heap.size ≤ g) := hid (by omega)
  rw [hgz] at hb7 ⊢
  clear hgz
  have h0 := hid (Rg.T1.zero fr_ to_ st)
  go_loopw [8] (fun v W => Ext w3 W ∧ ∃ (i : Nat) (R : Nat → Nat → Bool), i ≤ st.length ∧ v = .int .i64 i ∧ Blk W g 95 (toT R) ∧ Hid (Rg.T1 fr_ to_ st i R ∧ Rg.Bd R)) (fun v _ => st.length - (RowKit.intOf v).toNat)
  case atStart => exact ⟨hE7, 0, _, by omega, rfl, hb7, hid ⟨h0.out, fun x y h => by cases h⟩⟩
  case round =>
    obtain ⟨hW, i, R, hi, rfl, hB, hr⟩ := hrel
    by_cases hlt : i < st.length
    case pos =>
      obtain ⟨b3, o3, rfl, t0, t1⟩ := stl_opn D3.out hsl (by omega)
      have s0 := t0 wr i hW hlt
      have s1 := t1 wr i hW hlt
      clear t0 t1
      obtain ⟨⟨p, hp, hpe⟩, q, hq, hqe⟩ := hIN.out _ (sn_mem hlt)
      rw [hpe] at s0
      rw [hqe] at s1
      have hpi : (p : Int) < 64 := by omega
      have hqi : (q : Int) < 64 := by omega
      have rq := (hB.cell (p * 64 + q)).trans (toT_get R hp hq)
      have rf := hB.frozen (p * 64 + q)
      have hB3 : Blk (wr.setCell ⟨g, p * 64 + q, none⟩ (.bool true)) g 95 (toT (Rg.upd R p q true)) := by
        have := hB.set (p * 64 + q) (.bool true)
        rw [toT_set _ hp hq] at this
        exact this
      have hE3 := Ext.setCell (p := ⟨g, p * 64 + q, none⟩) hgl.out hW (.bool true)
      have hnx := hid (And.intro (hr.out.1.step fr_ to_ hlt (by rw [← sn_get hlt]; exact hpe) (by rw [← sn_get hlt]; exact hqe)) (hr.out.2.upd hp hq true))
      clear hpe hqe
      go_wp2
      go_region
      go_wp2
      exact ⟨⟨hE3.drew, i + 1, _, by omega, by go_num, hB3.drew, hnx⟩, by simp [RowKit.intOf]; omega⟩
    obtain rfl : i = st.length := by omega
    have hT := hid (And.intro (hr.out.1.tabled fr_ to_ (fun s hs => by obtain ⟨⟨p, _, e1⟩, q, _, e2⟩ := hIN.out s hs; omega)) hr.out.2)
    clear hr
    go_wp2
    go_loopw [9] (fun v W => Ext w3 W ∧ ∃ (k : Nat) (R : Nat → Nat → Bool), k ≤ 64 ∧ v = .int .i64 k ∧ Blk W g 95 (toT R) ∧ Hid (Rg.Tabled fr_ to_ st (k : Nat) (Rg.RI R) ∧ Rg.Bd R)) (fun v _ => 64 - (RowKit.intOf v).toNat)
    case atStart => exact ⟨hW, 0, R, by omega, rfl, hB, hT⟩
    case round =>
      clear hB hT hW hlt
      obtain ⟨hW, k, R, hk, rfl, hB, hr⟩ := hrel
      by_cases hlt : k < 64
      case pos =>
        have hkI : (k : Int) < 64 := by omega
        have hM0 := hid (And.intro (Rg.Mid.start fr_ to_ hr.out.1) hr.out.2)
        go_wp2
        go_loopw [10] (fun v W => Ext w3 W ∧ ∃ (a : Nat) (R' : Nat → Nat → Bool), a ≤ 64 ∧ v = .int .i64 a ∧ Blk W g 95 (toT R') ∧ Hid (Rg.Mid fr_ to_ st k R R' a 0 ∧ Rg.Bd R')) (fun v _ => 64 - (RowKit.intOf v).toNat)
        case atStart => exact ⟨hW, 0, R, by omega, rfl, hB, hM0⟩
        case round =>
          clear hB hW hM0
          obtain ⟨hW, a, R', ha, rfl, hB, hM⟩ := hrel
          by_cases hlta : a < 64
          case pos =>
            have haI : (a : Int) < 64 := by omega
            go_wp2
            go_loopw [11] (fun v W => Ext w3 W ∧ ∃ (b : Nat) (R2 : Nat → Nat → Bool), b ≤ 64 ∧ v = .int .i64 b ∧ Blk W g 95 (toT R2) ∧ Hid (Rg.Mid fr_ to_ st k R R2 a b ∧ Rg.Bd R2)) (fun v _ => 64 - (RowKit.intOf v).toNat)
            case atStart => exact ⟨hW, 0, R', by omega, rfl, hB, hM⟩
            case round =>
              clear hB hW hM
              obtain ⟨hW, b, R2, hb, rfl, hB, hM⟩ := hrel
              by_cases hltb : b < 64
              case pos =>
                have hbI : (b : Int) < 64 := by omega
                have r1 := (hB.cell (a * 64 + b)).trans (toT_get R2 hlta hltb)
                have r2 := (hB.cell (a * 64 + k)).trans (toT_get R2 hlta hlt)
                have r3 := (hB.cell (k * 64 + b)).trans (toT_get R2 hlt hltb)
                have rf := hB.frozen (a * 64 + b)
                have hst := hid (And.intro (hM.out.1.step fr_ to_) (hM.out.2.upd hlta hltb (R2 a b || R2 a k && R2 k b)))
                have hset := hid (fun v : Bool => (show Blk (wr.setCell ⟨g, a * 64 + b, none⟩ (.bool v)) g 95 (toT (Rg.upd R2 a b v)) from by
                  have := hB.set (a * 64 + b) (.bool v)
                  rw [toT_set _ hlta hltb] at this
                  exact this))
                have hE3 := hid (fun v : Value => Ext.setCell (p := ⟨g, a * 64 + b, none⟩) hgl.out hW v)
                generalize R2 a b = x1 at r1 hst
                generalize R2 a k = x2 at r2 hst
                generalize R2 k b = x3 at r3 hst
                have hw : x1 = true ∨ (x1 = false ∧ x2 = false) ∨ (x1 = false ∧ x2 = true ∧ x3 = false) ∨ (x1 = false ∧ x2 = true ∧ x3 = true) := by cases x1 <;> cases x2 <;> cases x3 <;> simp
                clear hM hB
                rcases hw with rfl | ⟨rfl, rfl⟩ | ⟨rfl, rfl, rfl⟩ | ⟨rfl, rfl, rfl⟩
                all_goals
                  simp only [Bool.true_or, Bool.false_or, Bool.true_and, Bool.false_and] at hst
                  go_wp2
                  go_region
                  go_wp2
                  exact ⟨⟨(hE3.out _).drew, b + 1, _, by omega, by go_num, (hset.out _).drew, hst⟩, by simp [RowKit.intOf]; omega⟩
              obtain rfl : b = 64 := by omega
              have hM2 := hid (And.intro (hM.out.1.row fr_ to_) hM.out.2)
              go_wp2
              exact ⟨⟨hW, a + 1, R2, by omega, by go_num, hB, hM2⟩, by simp [RowKit.intOf]; omega⟩
          obtain rfl : a = 64 := by omega
          have hT2 := hid (And.intro (Rg.Mid.close fr_ to_ hr.out.1 hr.out.2 hM.out.1) hM.out.2)
          go_wp2
          exact ⟨⟨hW, k + 1, R', by omega, by go_num, hB, hT2⟩, by simp [RowKit.intOf]; omega⟩
      obtain rfl : k = 64 := by omega
      have hend := hid (Rg.Tabled.some fr_ to_ hr.out.1 (fun s hs => by obtain ⟨⟨p, _, e1⟩, q, _, e2⟩ := hIN.out s hs; omega) hr.out.2)
      clear hr hlt
      go_wp2
      go_loopw [12] (fun v W => Ext w3 W ∧ ∃ (a : Nat), a ≤ 64 ∧ v = .int .i64 a ∧ Blk W g 95 (toT R) ∧ Hid (∀ x, x < a → R x x = false)) (fun v _ => 64 - (RowKit.intOf v).toNat)
      case atStart => exact ⟨hW, 0, by omega, rfl, hB, hid (fun x hx => by omega)⟩
      case round =>
        clear hB hW
        obtain ⟨hW, a, ha, rfl, hB, hr⟩ := hrel
        by_cases hlta : a < 64
        case pos =>
          have haI : (a : Int) < 64 := by omega
          have r1 := (hB.cell (a * 64 + a)).trans (toT_get R hlta hlta)
          obtain ⟨v, hv⟩ : ∃ v, R a a = v := ⟨_, rfl⟩
          rw [hv] at r1
          have HV := hid hv
          clear hv
          cases v
          · have hr2 := hid (show ∀ x, x < a + 1 → R x x = false from fun x hx => by
              by_cases e : x = a
              · rw [e]; exact HV.out
              · exact hr.out x (by omega))
            go_wp2
            exact ⟨⟨hW, a + 1, by omega, by go_num, hB, hr2⟩, by simp [RowKit.intOf]; omega⟩
          · have hR := hid (show goodB l lev = false from by
              cases hq : goodB l lev with
              | false => rfl
              | true => exact absurd (hend.out.1 ⟨a, hlta, HV.out⟩) (hg.out.1 hq))
            go_wp2
            go_ret
            exact ⟨ret_bool hR.out.symm, hY3.trans hW⟩
        obtain rfl : a = 64 := by omega
        have hR := hid (show goodB l lev = true from hg.out.2 (fun z => by
          obtain ⟨x, hx, hx2⟩ := hend.out.2 z
          rw [hr.out x hx] at hx2; cases hx2))
        go_wp2
        go_ret
        exact ⟨ret_bool hR.out.symm, hY3.trans hW⟩
def cartoucheref12_Good.f (l0 : List (S50)) (a1 : Int) : Option (Bool) := if (formed (evs l0)).2 = 0 ∧ ∀ y ∈ l0, y.f2.size ≤ 9223372036854775807 then some (goodB l0 a1) else none
theorem cartoucheref12_Good.calls (A0 : Option Addr) (c0 : Nat) (l0 : List (S50)) (a1 : Int) (r : Bool) (w : World) (hr0 : YtebjiimlcnmfpaaGreatW.PrintWords.Kd.C k50 w A0 l0.length l0) (hc0 : l0.length ≤ c0) (h : cartoucheref12_Good.f l0 a1 = some r) :
    Calls Tryz.prog 34 #[.slice A0 l0.length c0, .int .i64 a1] w fun e w' => e = .returned (.bool r) ∧ Below w.heap.size w w' := by
  unfold cartoucheref12_Good.f at h
  split at h
  · rename_i hn
    injection h with h
    subst h
    exact r12_good w A0 c0 l0 a1 hr0 hc0 hn.1 hn.2
  · cases h
theorem good_f {xs : List S50} {lev : Int} (hf : (formed (evs xs)).2 = 0) (hS : ∀ y ∈ xs, EvS y) : cartoucheref12_Good.f xs lev = some (goodB xs lev) := by
  unfold cartoucheref12_Good.f
  rw [if_pos ⟨hf, fun y hy => (hS y hy).2.2.1⟩]
end
end Go.Proofs.YtebjiimlcnmfpaaGreatPr
