/-
  The law RingKeeps, walked by hand.
-/
import Derived.Test.YthjgmccpbcelgaaA22
set_option linter.unusedVariables false
set_option linter.unusedSimpArgs false
namespace Go.Proofs.YthjgmccpbcelgaaPr
open Go.Proofs.Ythjgmccpbcelgaa
section
open Go Go.RowKit Go.Proofs Go.Shelf
set_option linter.unusedSimpArgs false
set_option linter.unusedVariables false
attribute [local go_sem] Ext.alloc Ext.alloc2 Ext.alloc3 Ext.alloc4 Ext.drewN_alloc Ext.drewN_alloc2 Ext.drew_alloc Ext.drew Ext.drewN toList_beq
attribute [-go_sem] Builtin.append_

def cnt (x : Int) : List Int → Nat
  | [] => 0
  | y :: r => (if y = x then 1 else 0) + cnt x r
theorem cnt_none {x : Int} : ∀ {l : List Int}, x ∉ l → cnt x l = 0
  | [], _ => rfl
  | y :: r, h => by
    have h1 : y ≠ x := fun e => h (by rw [e]; exact List.mem_cons_self)
    have h2 : x ∉ r := fun e => h (List.mem_cons_of_mem _ e)
    simp [cnt, h1, cnt_none h2]
theorem cnt_one {x : Int} : ∀ {l : List Int}, l.Nodup → x ∈ l → cnt x l = 1
  | y :: r, hd, h => by
    obtain ⟨h1, h2⟩ := List.nodup_cons.1 hd
    by_cases e : y = x
    · subst e
      simp [cnt, cnt_none h1]
    · have h3 : x ∈ r := by
        rcases List.mem_cons.1 h with h | h
        · exact absurd h.symm e
        · exact h
      simp [cnt, e, cnt_one h2 h3]
theorem cnt_snoc (x y : Int) : ∀ l : List Int, cnt x (l ++ [y]) = cnt x l + (if y = x then 1 else 0)
  | [] => by simp [cnt]
  | z :: r => by simp only [List.cons_append, cnt, cnt_snoc x y r]; omega
theorem cnt_le (x : Int) : ∀ l : List Int, cnt x l ≤ l.length
  | [] => Nat.le_refl _
  | z :: r => by
    have := cnt_le x r
    simp only [cnt, List.length_cons]
    split <;> omega
theorem slice_lo2 (b o len cap m : Nat) (h : m ≤ len) (hc : len ≤ cap) : ∃ o', (m < len → o' = o + m * 3) ∧ ∀ W, (Instr.slice 43 (.slice (some ⟨b, o, none⟩) len cap) (some (.int .i64 (m : Int))) none none).run Try.prog W = .ok (.slice (some ⟨b, o', none⟩) (len - m) (cap - m)) W := by
  by_cases hm : m < cap
  · exact ⟨o + m * 3, fun _ => rfl, fun W => slice_lo W b o len cap m h hm⟩
  · refine ⟨o, fun h => by omega, fun W => ?_⟩
    obtain ⟨i0, hi, hz0, hz1, hz2⟩ := info_parts infoStp
    obtain rfl : cap = m := by omega
    simp [Instr.slice, run_underlying Try.underlying43, Instr.sliceBounds, run_sliceBound, sizeOf, typeInfo, hi, hz1, h, add_flat]
theorem fwd_calls {o : List Int} {l : Stl} {r : Bool} (ho : o.length ≤ 140737488351232) (hl : l.length ≤ 140737488351232) (hi : intsOk o = true) (hs : stepsOk l = true) (h : Rg.forward fr_ to_ l o = r) (A : Option Addr) (c : Nat) (B : Option Addr) (d : Nat) (w : World)
    (h1 : YthjgmccpbcelgaaW.PrintWords.Kd.C (YthjgmccpbcelgaaW.PrintWords.Kd.int .i64) w A o.length o) (h2 : o.length ≤ c) (h3 : YthjgmccpbcelgaaW.PrintWords.Kd.C k50 w B l.length l) (h4 : l.length ≤ d) :
    Calls Try.prog 53 #[.slice A o.length c, .slice B l.length d] w fun e w' => e = .returned (.bool r) ∧ Ext w w' := by
  refine ring_Forward.calls A c o B d l r w h1 h2 h3 h4 ?_
  unfold ring_Forward.f
  rw [if_pos ⟨⟨ho, hl⟩, hi, hs⟩, h]
set_option maxRecDepth 100000 in
set_option maxHeartbeats 8000000 in
theorem keeps (w : World) (A : Option Addr) (ca : Nat) (nodes : List Int) (B : Option Addr) (cap : Nat) (l : Stl) (i : Int) (hN : YthjgmccpbcelgaaW.PrintWords.Kd.C (YthjgmccpbcelgaaW.PrintWords.Kd.int .i64) w A nodes.length nodes) (hca : nodes.length ≤ ca) (hC : YthjgmccpbcelgaaW.PrintWords.Kd.C k50 w B l.length l) (hcap : l.length ≤ cap)
    (hI : ∀ x ∈ nodes, IntS x) (hn8 : nodes.length * 8 ≤ 140737488351232) (hS : ∀ y ∈ l, StepS y) (hn : l.length * 40 ≤ 140737488351232) :
    Calls Try.prog 14 #[.slice A nodes.length ca, .slice B l.length cap, .int .i64 i] w fun e w' => e = .returned (.bool true) ∧ Ext w w' := by
  have hX := Ext.refl w
  have HC := hid hC
  have HN := hid hN
  obtain ⟨r1, hr1⟩ : ∃ r1, (Rg.order fr_ to_ l nodes).getD [] = r1 := ⟨_, rfl⟩
  obtain ⟨r2, hr2⟩ : ∃ r2, (Rg.order fr_ to_ l nodes).isSome = r2 := ⟨_, rfl⟩
  have hof : ring_Order.f nodes l = some (r1, r2) := by
    unfold ring_Order.f
    rw [if_pos ⟨⟨hn8, by omega⟩, intsOk_iff.2 hI, stepsOk_of hS⟩, hr1, hr2]
  have HOF := hid hof
  clear hC hN hof
  obtain ⟨sm, hsm⟩ : ∃ sm, decide ((l.length : Int) ≤ 120) = sm := ⟨_, rfl⟩
  have HSM := hid hsm
  go_enter Try.func14, Try.ntmps14
  cases r2
  · go_wp2_with first
      | (go_at_call 43; refine (cartouchelaw11_shown.calls true _ shown11).mono ?_; rintro e w1 ⟨rfl, hx1⟩; have hX1 := hX.trans hx1)
      | (go_at_call 44; refine (cartouchelaw11_few.calls _ _ l _ _ (YthjgmccpbcelgaaW.PrintWords.Kd.C_below HC.out hX1) hcap rfl).mono ?_; rintro e w2 ⟨rfl, ⟨⟨nd, rfl⟩⟩⟩; rw [HSM.out]; have hX2 : Ext w (w1.drewN nd) := hX1.drewN nd)
      | (go_at_call 50; refine (ring_Order.calls A ca nodes B cap l r1 false _ (YthjgmccpbcelgaaW.PrintWords.Kd.C_below HN.out hX2) hca (YthjgmccpbcelgaaW.PrintWords.Kd.C_below HC.out hX2) hcap HOF.out).mono ?_; rintro e w3 ⟨v3, rfl, hR3, hx3⟩; have hX3 := hX2.trans hx3)
    all_goals
      go_ret
      exact ⟨rfl, hX3⟩
  · obtain ⟨o, ho⟩ := Option.isSome_iff_exists.1 hr2
    have hro : o = r1 := by rw [← hr1, ho]; rfl
    subst hro
    obtain ⟨g1, g2, g3⟩ := Rg.order_some fr_ to_ ho
    have hfw : Rg.forward fr_ to_ l o = true := Rg.fwd_forward fr_ to_ g1 g3
    have hol : o.length ≤ nodes.length := g1.length_le_of_subset (fun x hx => (g2 x).1 hx)
    have hio : intsOk o = true := intsOk_iff.2 fun x hx => hI x ((g2 x).1 hx)
    have FWD := hid (fwd_calls (o := o) (l := l) (by omega) (by omega) hio (stepsOk_of hS) hfw)
    have HCN := hid (fun (k : Nat) (hk : k < nodes.length) => cnt_one (x := inth nodes k) g1 ((g2 _).2 (by unfold inth; rw [List.getD_eq_getElem?_getD, List.getElem?_eq_getElem hk]; exact List.getElem_mem _)))
    have HLS := hid (fun m : Nat => fwd_calls (o := o) (l := l.take m ++ l.drop (m + 1)) (by omega) (by simp; omega) hio (stepsOk_of (fun y hy => hS y ((List.mem_append.1 hy).elim List.mem_of_mem_take List.mem_of_mem_drop))) (Rg.forward_less fr_ to_ hfw (fun y hy => (List.mem_append.1 hy).elim List.mem_of_mem_take List.mem_of_mem_drop)))
    clear hr1 hr2 ho g1 g2 g3 hfw hio hI hS
    by_cases hs : sm = true
    · subst hs
      by_cases h100 : (100 : Int) < (nodes.length : Int)
      · go_wp2_with first
            | (go_at_call 43; refine (cartouchelaw11_shown.calls true _ shown11).mono ?_; rintro e w1 ⟨rfl, hx1⟩; have hX1 := hX.trans hx1)
            | (go_at_call 44; refine (cartouchelaw11_few.calls _ _ l _ _ (YthjgmccpbcelgaaW.PrintWords.Kd.C_below HC.out hX1) hcap rfl).mono ?_; rintro e w2 ⟨rfl, ⟨⟨nd, rfl⟩⟩⟩; rw [HSM.out]; have hX2 : Ext w (w1.drewN nd) := hX1.drewN nd)
            | (go_at_call 50; refine (ring_Order.calls A ca nodes B cap l o true _ (YthjgmccpbcelgaaW.PrintWords.Kd.C_below HN.out hX2) hca (YthjgmccpbcelgaaW.PrintWords.Kd.C_below HC.out hX2) hcap HOF.out).mono ?_; rintro e w3 ⟨v3, rfl, hR3, hx3⟩; have hX3 := hX2.trans hx3)
        all_goals
          go_ret
          exact ⟨rfl, hX3⟩
      · go_wp2_with first
            | (go_at_call 43; refine (cartouchelaw11_shown.calls true _ shown11).mono ?_; rintro e w1 ⟨rfl, hx1⟩; have hX1 := hX.trans hx1)
            | (go_at_call 44; refine (cartouchelaw11_few.calls _ _ l _ _ (YthjgmccpbcelgaaW.PrintWords.Kd.C_below HC.out hX1) hcap rfl).mono ?_; rintro e w2 ⟨rfl, ⟨⟨nd, rfl⟩⟩⟩; rw [HSM.out]; have hX2 : Ext w (w1.drewN nd) := hX1.drewN nd)
            | (go_at_call 50; refine (ring_Order.calls A ca nodes B cap l o true _ (YthjgmccpbcelgaaW.PrintWords.Kd.C_below HN.out hX2) hca (YthjgmccpbcelgaaW.PrintWords.Kd.C_below HC.out hX2) hcap HOF.out).mono ?_; rintro e w3 ⟨v3, rfl, hR3, hx3⟩; have hX3 := hX2.trans hx3)
        obtain ⟨A9, c9, rfl, hc9, hO9⟩ := YthjgmccpbcelgaaW.PrintWords.Kd.N_reads (YthjgmccpbcelgaaW.PrintWords.Kd.R_N hR3)
        have HO9 := hid hO9
        have hN9 := nums_of hO9 (by omega)
        have hNN := nums_of HN.out (by omega)
        clear hR3 hO9
        go_loopw [11] (fun v W => Ext w3 W ∧ ∃ k : Nat, k ≤ nodes.length ∧ v = .int .i64 k) (fun v _ => nodes.length - (RowKit.intOf v).toNat)
        case atStart => exact ⟨Ext.refl _, 0, by omega, rfl⟩
        case round =>
          obtain ⟨hW3, k, hk, rfl⟩ := hrel
          by_cases hlt : k < nodes.length
          · obtain ⟨bn, on, rfl, n0⟩ := hNN.opn (by omega)
            have hW : Ext w wr := hX3.trans hW3
            go_wp2
            go_loopw [12, 13] (fun c v W => Ext wr W ∧ ∃ m : Nat, m ≤ o.length ∧ v = .int .i64 m ∧ c = .int .i64 (cnt (inth nodes k) (o.take m) : Nat)) (fun _ v _ => o.length - (RowKit.intOf v).toNat)
            case atStart => exact ⟨Ext.refl _, 0, by omega, rfl, rfl⟩
            case round =>
              obtain ⟨hW4, m, hm, rfl, rfl⟩ := hrel
              have hX4 := hW3.trans hW4
              have hY4 := hW.trans hW4
              by_cases hlt2 : m < o.length
              · obtain ⟨bo, oo, rfl, o0⟩ := hN9.opn (by omega)
                have d0 := o0 _ m hX4 hlt2
                have d1 := n0 _ k hY4 hlt
                have htk := hid (take_snoc' hlt2)
                have hcl := hid (cnt_le (inth nodes k) (o.take m))
                have hwm : Hid (wrap64 ((m : Int) + 1) = ((m + 1 : Nat) : Int)) := hid (by unfold wrap64; omega)
                have hwc : Hid (wrap64 ((cnt (inth nodes k) (o.take m) : Int) + 1) = ((cnt (inth nodes k) (o.take m) + 1 : Nat) : Int)) := hid (by have := hcl.out; rw [List.length_take] at this; unfold wrap64; omega)
                by_cases he : inth o m = inth nodes k
                · rw [he] at d0
                  go_wp2
                  go_quiet (fail)
                  go_wp2
                  exact ⟨⟨(by repeat (first | assumption | apply Ext.alloc | apply Ext.drewN | apply Ext.drew | (refine Ext.setCell (by simp <;> omega) ?_ _))), m + 1, by omega, by go_num, by rw [htk.out, cnt_snoc, if_pos he, hwc.out]⟩, by simp [RowKit.intOf]; omega⟩
                · have he2 : (inth o m == inth nodes k) = false := by simp [he]
                  go_wp2
                  go_quiet (fail)
                  go_wp2
                  exact ⟨⟨(by repeat (first | assumption | apply Ext.alloc | apply Ext.drewN | apply Ext.drew | (refine Ext.setCell (by simp <;> omega) ?_ _))), m + 1, by omega, by go_num, by rw [htk.out, cnt_snoc, if_neg he, Nat.add_zero]⟩, by simp [RowKit.intOf]; omega⟩
              · have htk : o.take m = o := List.take_of_length_le (by omega)
                have hc1 := HCN.out k hlt
                rw [htk, hc1]
                go_wp2
                exact ⟨⟨hX4, k + 1, by omega, by go_num⟩, by simp [RowKit.intOf]; omega⟩
          · have hW : Ext w wr := hX3.trans hW3
            have CO := hid (YthjgmccpbcelgaaW.PrintWords.Kd.C_below HO9.out hW3)
            have CL := hid (YthjgmccpbcelgaaW.PrintWords.Kd.C_below HC.out hW)
            by_cases hi0 : i < 0
            · go_wp2_with (go_at_call 53; (with_reducible refine (FWD.out _ _ _ _ _ CO.out hc9 CL.out hcap).mono ?_); rintro e w5 ⟨rfl, hx5⟩; have hX5 := hW.trans hx5)
              go_ret
              exact ⟨rfl, hX5⟩
            · by_cases hi1 : (l.length : Int) ≤ i
              · go_wp2_with (go_at_call 53; (with_reducible refine (FWD.out _ _ _ _ _ CO.out hc9 CL.out hcap).mono ?_); rintro e w5 ⟨rfl, hx5⟩; have hX5 := hW.trans hx5)
                go_ret
                exact ⟨rfl, hX5⟩
              · obtain ⟨m, rfl⟩ : ∃ m : Nat, i = m := ⟨i.toNat, by omega⟩
                obtain ⟨L, hL, hSt⟩ := both (Q := k50.K w) (fun x c hx => by
                  obtain ⟨A2, c2, hc, _, _⟩ := k50_open hx
                  exact ⟨A2, c2, hc⟩) HC.out (by omega)
                have hlen : (L.map Bth.s).length = l.length := by rw [← hL]; simp
                obtain ⟨b, oB, rfl, -⟩ := hSt.opn (by omega)
                have sl1 := fun W => slice_hi W b oB l.length cap m (by omega) (by omega)
                obtain ⟨o', ho', sl2'⟩ := slice_lo2 b oB l.length cap (m + 1) (by omega) hcap
                have sl2 : ∀ W, (Instr.slice 43 (.slice (some ⟨b, oB, none⟩) l.length cap) (some (.int .i64 ((m : Int) + 1))) none none).run Try.prog W = .ok (.slice (some ⟨b, o', none⟩) (l.length - (m + 1)) (cap - (m + 1))) W := fun W => by
                  have := sl2' W
                  rwa [show ((m + 1 : Nat) : Int) = (m : Int) + 1 by omega] at this
                have hXW : Ext w (wr.alloc (.cells #[] 50)) := (by repeat (first | assumption | apply Ext.alloc | apply Ext.drewN | apply Ext.drew | (refine Ext.setCell (by simp <;> omega) ?_ _)))
                have own0 : (wr.alloc (.cells #[] 50)).ownsRow w.heap.size 50 3 (.slice (some ⟨wr.heap.size, 0, none⟩) 0 0) ([] : List Stp).length (([] : List Stp).flatMap Stp.cs) :=
                  ⟨rfl, .inr ⟨wr.heap.size, 0, #[], rfl, hW.le, heap_alloc_new wr _, Nat.le_refl _, by unfold maxLen; omega, rfl, rfl⟩⟩
                have hwle := hW.le
                obtain ⟨v1, W1, run1, own1, hg1, hat1⟩ := app_more own0 (by simp; omega) (fun j u hj => hXW.cell (Stps.fore hSt m j u hj)) (n := m) (by simp [hlen]; omega) cap (by simp; omega) 43
                have hX1' : Ext w W1 := Ext.grown hXW hg1 (own_block own0)
                obtain ⟨v2, W2, run2, own2, hg2, _⟩ := app_more own1 (by have := hX1'.le; omega) (l := (L.map Bth.s).drop (m + 1)) (b := b) (o := o') (fun j u hj => hX1'.cell (by
                  by_cases hlt3 : m + 1 < l.length
                  · rw [ho' hlt3]; exact Stps.part hSt (m + 1) j u hj
                  · rw [List.drop_eq_nil_of_le (by omega)] at hj; simp at hj)) (n := l.length - (m + 1)) (by simp [hlen]) (cap - (m + 1)) (by simp [hlen]; omega) 43
                have hX2' : Ext w W2 := Ext.grown hX1' hg2 (own_block own1)
                have hx2 : Ext wr W2 := Ext.grown (Ext.grown (Ext.alloc (Ext.refl wr) _) hg1 (fun k hk => by cases hk; exact Nat.le_refl _)) hg2 (fun k hk => by
                  rcases hat1 with e | e
                  · rw [e] at hk; cases hk; exact Nat.le_refl _
                  · rw [e] at hk; cases hk; simp)
                have hk : [] ++ (L.map Bth.s).take m ++ (L.map Bth.s).drop (m + 1) = (L.take m ++ L.drop (m + 1)).map Bth.s := by simp
                rw [hk] at own2
                obtain ⟨A2, c2, rfl, hc2, hA2, hC2⟩ := bth_row hX2' _ own2
                have hk2 : (L.take m ++ L.drop (m + 1)).map Bth.t = l.take m ++ l.drop (m + 1) := by rw [← hL]; simp
                have HF := HLS.out m
                clear hA2
                obtain ⟨l', hl'⟩ : ∃ l', l.take m ++ l.drop (m + 1) = l' := ⟨_, rfl⟩
                rw [hl'] at hk2 HF
                rw [hk2] at hc2 hC2
                simp only [hk2] at run2
                have HC2 := hid hC2
                have HF2 := hid HF
                have CO2 := hid (YthjgmccpbcelgaaW.PrintWords.Kd.C_below CO.out hx2)
                have CL2 := hid (YthjgmccpbcelgaaW.PrintWords.Kd.C_below CL.out hx2)
                clear own0 own1 own2 hg1 hg2 hat1 hk hk2 hC2 hXW hX1' hlen HF hSt HCN HLS HOF hl' sl2' ho' CO CL
                go_wp2_with first
                  | (go_at_call 53; (with_reducible refine (FWD.out _ _ _ _ _ CO2.out hc9 CL2.out hcap).mono ?_); rintro e w5 ⟨rfl, hx5⟩; have hX5 := hX2'.trans hx5; have CO5 := hid (YthjgmccpbcelgaaW.PrintWords.Kd.C_below CO2.out hx5); have CL5 := hid (YthjgmccpbcelgaaW.PrintWords.Kd.C_below HC2.out hx5))
                  | (go_at_call 53; (with_reducible refine (HF2.out _ _ _ _ _ CO5.out hc9 CL5.out hc2).mono ?_); rintro e w6 ⟨rfl, hx6⟩; have hX6 := hX5.trans hx6)
                go_ret
                exact ⟨rfl, hX6⟩
    · have hs' : sm = false := by cases sm <;> simp_all
      subst hs'
      go_wp2_with first
        | (go_at_call 43; refine (cartouchelaw11_shown.calls true _ shown11).mono ?_; rintro e w1 ⟨rfl, hx1⟩; have hX1 := hX.trans hx1)
        | (go_at_call 44; refine (cartouchelaw11_few.calls _ _ l _ _ (YthjgmccpbcelgaaW.PrintWords.Kd.C_below HC.out hX1) hcap rfl).mono ?_; rintro e w2 ⟨rfl, ⟨⟨nd, rfl⟩⟩⟩; rw [HSM.out]; have hX2 : Ext w (w1.drewN nd) := hX1.drewN nd)
        | (go_at_call 50; refine (ring_Order.calls A ca nodes B cap l o true _ (YthjgmccpbcelgaaW.PrintWords.Kd.C_below HN.out hX2) hca (YthjgmccpbcelgaaW.PrintWords.Kd.C_below HC.out hX2) hcap HOF.out).mono ?_; rintro e w3 ⟨v3, rfl, hR3, hx3⟩; have hX3 := hX2.trans hx3)
      all_goals
        go_ret
        exact ⟨rfl, hX3⟩
end
end Go.Proofs.YthjgmccpbcelgaaPr
