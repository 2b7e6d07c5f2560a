/-
  The reference's edges of a history, walked by hand: the edges of all its keys.
-/
import Derived.Test.YtebjiimlcnmfpaaGreatPr0
import Derived.Test.YtebjiimlcnmfpaaGreatPrCartoucheref08Versions
import Derived.Test.YtebjiimlcnmfpaaGreatB1
import Derived.Test.YtebjiimlcnmfpaaGreatS18
import Derived.Test.YtebjiimlcnmfpaaGreatB34
import Derived.Test.YtebjiimlcnmfpaaGreatS10
import Derived.Test.YtebjiimlcnmfpaaGreatA21
import Derived.Deep.RegionHeld
import Derived.Deep.LoopGhost
section
namespace Go.Proofs.YtebjiimlcnmfpaaGreatPr
open Go.RowKit Go.Proofs.YtebjiimlcnmfpaaGreatW.PrintWords Go.Proofs.YtebjiimlcnmfpaaGreatW.PrintLast Go.Proofs.YtebjiimlcnmfpaaGreatW.PrintMore
attribute [local go_sem] max2_int min2_int max_two min_two max_three min_three max_four min_four   -- for this text's walks alone
set_option linter.unusedVariables false
set_option linter.unusedSimpArgs false
/-! ### cartoucheref08_Ints: function 23 -/
def cartoucheref08_Ints.l0 : Nat → List Int → List Int → Int → Option (Bool)
 | 0, _, _, _ => none
 | k + 1, x0, x1, x5 => if x5 < (x0.length : Int) then (if 0 ≤ x5 then (if x5 < (x1.length : Int) then (if (rd x0 x5) = (rd x1 x5) then (cartoucheref08_Ints.l0 k x0 x1 (wrap64 (x5 + 1))) else (some false)) else (none)) else (none)) else (some true)
def cartoucheref08_Ints.f (k : Nat) (l0 : List Int) (l1 : List Int) : Option (Bool) := if (l0.length : Int) = (l1.length : Int) then (cartoucheref08_Ints.l0 k l0 l1 0) else (some false)
theorem cartoucheref08_Ints.mono_l : ∀ k, (∀ y0 y1 y2, LeO (cartoucheref08_Ints.l0 k y0 y1 y2) (cartoucheref08_Ints.l0 (k + 1) y0 y1 y2))
 | 0 => fun _ _ _ r h => by simp [cartoucheref08_Ints.l0] at h
 | k + 1 => by
  have ih0 := cartoucheref08_Ints.mono_l k
  · intro y0 y1 y2
    unfold cartoucheref08_Ints.l0
    repeat' first
    | (with_reducible exact ih0 _ _ _)
    | (with_reducible exact LeO.refl _)
    | (with_reducible exact LeO.none _)
    | (with_reducible refine LeO.ite ?_ ?_)
    | (with_reducible refine LeO.bind ?_ (fun _ => ?_))
    | exact ih0 _ _ _
    | exact LeO.none _
    | refine LeO.ite ?_ ?_
    | refine LeO.bind ?_ (fun _ => ?_)
theorem cartoucheref08_Ints.mono : ∀ a0 a1 k, LeO (cartoucheref08_Ints.f k a0 a1) (cartoucheref08_Ints.f (k + 1) a0 a1) := by
 intro a0 a1 k
 have ih0 := cartoucheref08_Ints.mono_l k
 unfold cartoucheref08_Ints.f
 repeat' first
  | (with_reducible exact ih0 _ _ _)
  | (with_reducible exact LeO.refl _)
  | (with_reducible exact LeO.none _)
  | (with_reducible refine LeO.ite ?_ ?_)
  | (with_reducible refine LeO.bind ?_ (fun _ => ?_))
  | exact ih0 _ _ _
  | exact LeO.none _
  | refine LeO.ite ?_ ?_
  | refine LeO.bind ?_ (fun _ => ?_)
set_option maxHeartbeats 8000000 in
set_option maxRecDepth 100000 in
theorem cartoucheref08_Ints.calls (k : Nat) (A0 : Option Addr) (c0 : Nat) (l0 : List Int) (A1 : Option Addr) (c1 : Nat) (l1 : List Int) (r : Bool) (w : World) (hr0 : Kd.C (Kd.int .i64) w A0 l0.length l0) (hc0 : l0.length ≤ c0) (hr1 : Kd.C (Kd.int .i64) w A1 l1.length l1) (hc1 : l1.length ≤ c1) (h : cartoucheref08_Ints.f k l0 l1 = some r) :
 Calls Tryz.prog 23 #[.slice A0 l0.length c0, .slice A1 l1.length c1] w fun e w' => e = .returned (.bool r) ∧ Drawn0 w w' := by
 have HR0 := Aside0.mk hr0
 have HC0 := Aside0.mk hc0
 clear hr0 hc0
 have HR1 := Aside0.mk hr1
 have HC1 := Aside0.mk hc1
 clear hr1 hc1
 have H : (if (l0.length : Int) = (l1.length : Int) then (cartoucheref08_Ints.l0 k l0 l1 0) else (some false)) = some r := h
 clear h
 by_cases c3 : (l0.length : Int) = (l1.length : Int)
 · rw [if_pos c3] at H
   have c3b0 : ((l0.length : Int) == (l1.length : Int)) = true := beq_iff_eq.mpr c3
   have c3b1 : ((l0.length : Int) != (l1.length : Int)) = false := bne_eq_false_iff_eq.mpr c3
   have c3b2 : (l0.length == l1.length) = true := by first | simpa using c3 | (simp at c3 ⊢; omega)
   clear c3
   have H' := Aside0.mk H
   clear H
   go_enter Tryz.func23, Tryz.ntmps23
   go_wp2
   repeat (go_quiet (fail); try go_wp2)
   go_loopg [5] k (fun kq v5 w' => ∃ (x5_1 : Int), v5 = .int .i64 x5_1 ∧ Aside0 (cartoucheref08_Ints.l0 kq l0 l1 x5_1 = some r) ∧ Aside0 (kq ≤ k) ∧ Drawn0 w w')
   case atStart => exact ⟨(0), (by first | rfl | (simp; done) | (simp [*]; done)), H', ⟨Nat.le_refl _⟩, by repeat (first | exact Drawn0.refl _ | apply Drawn0.step)⟩
   case round =>
    clear H'
    try clear c1
    try clear c2
    try clear p2
    try clear c3
    try clear c3b0
    try clear c3b1
    try clear c3b2
    obtain ⟨x5_1, rfl, HA, HK1, ⟨m1, rfl⟩⟩ := hrel
    cases gk with
    | zero => exact absurd HA.out (by simp [cartoucheref08_Ints.l0])
    | succ k1 =>
     have H := HA.out
     clear HA
     simp only [cartoucheref08_Ints.l0] at H
     by_cases c4 : x5_1 < (l0.length : Int)
     · rw [if_pos c4] at H
       have c4b0 : decide (x5_1 < (l0.length : Int)) = true := decide_eq_true c4
       clear c4
       by_cases c5 : 0 ≤ x5_1
       · rw [if_pos c5] at H
         have c5b0 : decide (0 ≤ x5_1) = true := decide_eq_true c5
         clear c5
         by_cases c6 : x5_1 < (l1.length : Int)
         · rw [if_pos c6] at H
           have c6b0 : decide (x5_1 < (l1.length : Int)) = true := decide_eq_true c6
           clear c6
           by_cases c7 : (rd l0 x5_1) = (rd l1 x5_1)
           · rw [if_pos c7] at H
             have c7b0 : ((rd l0 x5_1) == (rd l1 x5_1)) = true := beq_iff_eq.mpr c7
             have c7b1 : ((rd l0 x5_1) != (rd l1 x5_1)) = false := bne_eq_false_iff_eq.mpr c7
             clear c7
             have H' := Aside0.mk H
             clear H
             have p153 : 0 ≤ (x5_1 : Int) := of_decide_eq_true (by first | (with_reducible assumption) | assumption)
             have q153 : x5_1 < (l0.length : Int) := of_decide_eq_true (by first | (with_reducible assumption) | assumption)
             obtain ⟨ad153, e153, hx153_0⟩ := Kd.at_int HR0.out x5_1 p153 q153
             cases e153
             replace p153 := eq_true p153
             replace q153 := eq_true q153
             have p154 : 0 ≤ (x5_1 : Int) := of_decide_eq_true (by first | (with_reducible assumption) | assumption)
             have q154 : x5_1 < (l1.length : Int) := of_decide_eq_true (by first | (with_reducible assumption) | assumption)
             obtain ⟨ad154, e154, hx154_0⟩ := Kd.at_int HR1.out x5_1 p154 q154
             cases e154
             replace p154 := eq_true p154
             replace q154 := eq_true q154
             go_wp2
             repeat (go_quiet (fail); try go_wp2)
             go_roundg k1
             case measure => have := HK1.out; omega
             case rel => exact ⟨(wrap64 (x5_1 + 1)), (by first | rfl | (simp; done) | (simp [*]; done)), H', ⟨by have := HK1.out; omega⟩, by repeat (first | exact Drawn0.refl _ | apply Drawn0.step)⟩
           · rw [if_neg c7] at H
             have c7b0 : ((rd l0 x5_1) == (rd l1 x5_1)) = false := beq_eq_false_iff_ne.mpr c7
             have c7b1 : ((rd l0 x5_1) != (rd l1 x5_1)) = true := bne_iff_ne.mpr c7
             obtain rfl := Option.some.inj H
             have p153 : 0 ≤ (x5_1 : Int) := of_decide_eq_true (by first | (with_reducible assumption) | assumption)
             have q153 : x5_1 < (l0.length : Int) := of_decide_eq_true (by first | (with_reducible assumption) | assumption)
             obtain ⟨ad153, e153, hx153_0⟩ := Kd.at_int HR0.out x5_1 p153 q153
             cases e153
             replace p153 := eq_true p153
             replace q153 := eq_true q153
             have p154 : 0 ≤ (x5_1 : Int) := of_decide_eq_true (by first | (with_reducible assumption) | assumption)
             have q154 : x5_1 < (l1.length : Int) := of_decide_eq_true (by first | (with_reducible assumption) | assumption)
             obtain ⟨ad154, e154, hx154_0⟩ := Kd.at_int HR1.out x5_1 p154 q154
             cases e154
             replace p154 := eq_true p154
             replace q154 := eq_true q154
             go_wp2
             repeat (go_quiet (fail); try go_wp2)
             go_ret
             exact ⟨by first | rfl | (simp; done) | (simp [*]; done), by repeat (first | exact Drawn0.refl _ | apply Drawn0.step)⟩
         · rw [if_neg c6] at H
           exact absurd H (by simp)
       · rw [if_neg c5] at H
         exact absurd H (by simp)
     · rw [if_neg c4] at H
       have c4b0 : decide (x5_1 < (l0.length : Int)) = false := decide_eq_false c4
       clear c4
       obtain rfl := Option.some.inj H
       go_wp2
       repeat (go_quiet (fail); try go_wp2)
       go_ret
       exact ⟨by first | rfl | (simp; done) | (simp [*]; done), by repeat (first | exact Drawn0.refl _ | apply Drawn0.step)⟩
 · rw [if_neg c3] at H
   have c3b0 : ((l0.length : Int) == (l1.length : Int)) = false := beq_eq_false_iff_ne.mpr c3
   have c3b1 : ((l0.length : Int) != (l1.length : Int)) = true := bne_iff_ne.mpr c3
   have c3b2 : (l0.length == l1.length) = false := by first | simpa using c3 | (simp at c3 ⊢; omega)
   obtain rfl := Option.some.inj H
   go_enter Tryz.func23, Tryz.ntmps23
   go_wp2
   repeat (go_quiet (fail); try go_wp2)
   go_ret
   exact ⟨by first | rfl | (simp; done) | (simp [*]; done), by repeat (first | exact Drawn0.refl _ | apply Drawn0.step)⟩
end Go.Proofs.YtebjiimlcnmfpaaGreatPr
end
section
section
/-! What all plain laws of chapter 8 lean on: the document's examples. -/
set_option linter.unusedVariables false
set_option linter.unusedSimpArgs false
namespace Go.Proofs.YtebjiimlcnmfpaaGreatPr
section
open Go.Proofs.YtebjiimlcnmfpaaGreat
open Go Go.RowKit

end
end Go.Proofs.YtebjiimlcnmfpaaGreatPr

/-! The plain law of HistoryWrites: who wrote a value, what was written last, and a key's versions, the program and the document tell alike. -/
namespace Go.Proofs.YtebjiimlcnmfpaaGreatPr
section
open Go Go.RowKit Go.Proofs.YtebjiimlcnmfpaaGreat

theorem rver_l0 (xs : List S50) (hn : xs.length ≤ 300) (key : ByteArray) : ∀ (d i : Nat) (acc : List Int), i + d = xs.length → acc = (List.range i).filterMap (verAt (evs xs) key) → Evt (fun k => cartoucheref08_Versions.l0 k xs key acc (i : Int)) (versions (evs xs) key)
  | 0, i, acc, hi, ha => Evt.now1 fun k => by
    simp only [cartoucheref08_Versions.l0]
    rw [if_neg (by omega), ha]
    unfold versions
    rw [evs_len, show i = xs.length by omega]
  | d + 1, i, acc, hi, ha => by
    have hlen := evs_len xs
    have hacc : acc.length ≤ i := by
      have := List.length_filterMap_le (verAt (evs xs) key) (List.range i)
      rw [List.length_range, ← ha] at this
      exact this
    have ih := rver_l0 xs hn key d (i + 1)
    have hst : (List.range (i + 1)).filterMap (verAt (evs xs) key) = acc ++ (verAt (evs xs) key i).toList := by
      rw [List.range_succ, List.filterMap_append, ha]
      cases h : verAt (evs xs) key i <;> simp [h]
    have skip : verAt (evs xs) key i = none → Evt (fun k => cartoucheref08_Versions.l0 k xs key acc ((i + 1 : Nat) : Int)) (versions (evs xs) key) := fun h => ih acc (by omega) (by rw [hst, h]; simp)
    have j1t : verAt (evs xs) key i = none → Evt (fun k => cartoucheref08_Versions.j1 k xs key acc (i : Int) true) (versions (evs xs) key) := fun h => by
      refine Evt.step (fun k => ?_) (skip h)
      simp only [cartoucheref08_Versions.j1]
      rw [if_pos (by trivial), wrap_succ (n := xs.length) (by omega) (by omega)]
    have hend : cartoucheref08_End.f xs (nth (evs xs) i).txn (xs.length : Int) = some (endOf (evs xs) (nth (evs xs) i).txn) := by
      unfold cartoucheref08_End.f
      rw [if_pos ⟨by omega, by omega, by omega⟩, Int.toNat_natCast, List.take_of_length_le (by omega)]
    by_cases q1 : (nth (evs xs) i).kind = 4
    · by_cases q2 : endOf (evs xs) (nth (evs xs) i).txn = i
      · have j1f : Evt (fun k => cartoucheref08_Versions.j1 k xs key acc (i : Int) false) (versions (evs xs) key) := by
          by_cases q3 : 0 ≤ lastOf (evs xs) (nth (evs xs) i).txn key i
          · have hv : verAt (evs xs) key i = some (lastOf (evs xs) (nth (evs xs) i).txn key i) := by unfold verAt; rw [if_pos ⟨q1, q2, q3⟩]
            refine Evt.step (fun k => ?_) (ih (acc ++ [lastOf (evs xs) (nth (evs xs) i).txn key i]) (by omega) (by rw [hst, hv]; rfl))
            simp only [cartoucheref08_Versions.j1]
            unfold cartoucheref08_Last.f
            rw [if_neg (by simp), if_pos (by omega), if_pos (by omega), if_pos (by omega), rd_f1]
            simp only [Option.bind_some, Int.toNat_natCast]
            rw [if_pos q3, if_pos (by omega), wrap_succ (n := xs.length) (by omega) (by omega)]
          · have hv : verAt (evs xs) key i = none := by unfold verAt; rw [if_neg (fun h => q3 h.2.2)]
            refine Evt.step (fun k => ?_) (skip hv)
            simp only [cartoucheref08_Versions.j1]
            unfold cartoucheref08_Last.f
            rw [if_neg (by simp), if_pos (by omega), if_pos (by omega), if_pos (by omega), rd_f1]
            simp only [Option.bind_some, Int.toNat_natCast]
            rw [if_neg (by omega), wrap_succ (n := xs.length) (by omega) (by omega)]
        refine Evt.step (fun k => ?_) j1f
        simp only [cartoucheref08_Versions.l0]
        rw [if_pos (by omega), if_pos (by omega), rd_f0, rd_f1]
        simp only [Int.toNat_natCast]
        rw [if_pos q1, hend]
        simp only [Option.bind_some]
        rw [q2]
        simp
      · have hv : verAt (evs xs) key i = none := by unfold verAt; rw [if_neg (fun h => q2 h.2.1)]
        refine Evt.step (fun k => ?_) (j1t hv)
        simp only [cartoucheref08_Versions.l0]
        rw [if_pos (by omega), if_pos (by omega), rd_f0, rd_f1]
        simp only [Int.toNat_natCast]
        rw [if_pos q1, hend]
        simp only [Option.bind_some]
        rw [show (endOf (evs xs) (nth (evs xs) i).txn != (i : Int)) = true by simpa using q2]
    · have hv : verAt (evs xs) key i = none := by unfold verAt; rw [if_neg (fun h => q1 h.1)]
      refine Evt.step (fun k => ?_) (j1t hv)
      simp only [cartoucheref08_Versions.l0]
      rw [if_pos (by omega), if_pos (by omega), rd_f0]
      simp only [Int.toNat_natCast]
      rw [if_neg q1]
theorem rver (xs : List S50) (hn : xs.length ≤ 300) (key : ByteArray) : Evt (fun k => cartoucheref08_Versions.f k xs key) (versions (evs xs) key) := by
  refine Evt.congr (fun k => ?_) (rver_l0 xs hn key xs.length 0 [] (by omega) (by simp))
  unfold cartoucheref08_Versions.f
  rfl
end
end Go.Proofs.YtebjiimlcnmfpaaGreatPr
end
section
set_option linter.unusedVariables false
set_option linter.unusedSimpArgs false
namespace Go.Proofs.YtebjiimlcnmfpaaGreatPr
open Go.Proofs.YtebjiimlcnmfpaaGreat
section
open Go Go.RowKit Go.Proofs Go.Shelf
set_option linter.unusedSimpArgs false
set_option linter.unusedVariables false
attribute [local go_sem] Ext.alloc Ext.alloc2 Ext.alloc3 Ext.alloc4 Ext.drewN_alloc Ext.drewN_alloc2 Ext.drew_alloc Ext.drew Ext.drewN toList_beq
attribute [-go_sem] Builtin.append_

theorem app_edge {W : World} {base : Nat} {v : Value} {pre : List Go.Proofs.YtebjiimlcnmfpaaGreat.Edge} (hown : W.ownsRow base 24 5 v pre.length (pre.flatMap Go.Proofs.YtebjiimlcnmfpaaGreat.Edge.cs)) (hbase : base ≤ W.heap.size) (hb : (pre.length + 1) * 40 ≤ 140737488355328) (ty : TypeId) (x : Go.Proofs.YtebjiimlcnmfpaaGreat.Edge) :
    ∃ v' w', (Builtin.append_ #[28, 28] ty #[v, .slice (some ⟨W.heap.size, 0, none⟩) 1 1]).run Tryz.prog (W.alloc (.cells #[.int .i64 x.kind, .int .i64 x.from_, .int .i64 x.to_, .int .i64 x.i, .int .i64 x.j] 24)) = .ok v' w' ∧ w'.ownsRow base 24 5 v' (pre ++ [x]).length ((pre ++ [x]).flatMap Go.Proofs.YtebjiimlcnmfpaaGreat.Edge.cs) ∧ W.grownBy w' v.ownBlock ∧ (v'.ownBlock = v.ownBlock ∨ ∃ b, v'.ownBlock = some b ∧ W.heap.size ≤ b) := by
  obtain ⟨i0, hi, hz0, hz1, hz2⟩ := info_parts infoEdge
  exact app_one Go.Proofs.YtebjiimlcnmfpaaGreat.Edge.cs (fun _ => rfl) (fun x u hu => by simp [Go.Proofs.YtebjiimlcnmfpaaGreat.Edge.cs] at hu; rcases hu with rfl | rfl | rfl | rfl | rfl <;> rfl) 28 ty 24 i0 _ 40 Tryz.underlying28 hi hz0 hz1 hz2 rfl (by decide) (by decide) hown hbase hb x
/-- What the walk keeps: the edges so far, and the versions of the key at hand. -/
structure AInv (w2 : World) (out : Value) (pre : List Go.Proofs.YtebjiimlcnmfpaaGreat.Edge) (vv : Value) (vs : List Int) (W : World) : Prop where
  ext : Ext w2 W
  out : W.ownsRow w2.heap.size 24 5 out pre.length (pre.flatMap Go.Proofs.YtebjiimlcnmfpaaGreat.Edge.cs)
  vs : W.ownsRow w2.heap.size 3 1 vv vs.length (vs.flatMap intCs)
theorem AInv.go {w2 W W' : World} {out : Value} {pre : List Go.Proofs.YtebjiimlcnmfpaaGreat.Edge} {vv : Value} {vs : List Int} (h : AInv w2 out pre vv vs W) (x : Ext W W') : AInv w2 out pre vv vs W' := ⟨h.ext.trans x, own_ext h.out h.ext.le x, own_ext h.vs h.ext.le x⟩
theorem AInv.put {w2 W W' : World} {out out' : Value} {pre pre' : List Go.Proofs.YtebjiimlcnmfpaaGreat.Edge} {vv : Value} {vs : List Int} (h : AInv w2 out pre vv vs W) (hg : W.grownBy W' out.ownBlock) (ho : W'.ownsRow w2.heap.size 24 5 out' pre'.length (pre'.flatMap Go.Proofs.YtebjiimlcnmfpaaGreat.Edge.cs)) : AInv w2 out' pre' vv vs W' :=
  ⟨Ext.grown h.ext hg (own_block h.out), ho, own_other (by decide) h.vs h.out hg⟩
theorem AInv.cell {w2 W : World} {out : Value} {pre : List Go.Proofs.YtebjiimlcnmfpaaGreat.Edge} {b o m c : Nat} {vs : List Int} (h : AInv w2 out pre (.slice (some ⟨b, o, none⟩) m c) vs W) (hb : vs.length ≤ 1000000) {q : Nat} (hq : q < vs.length) : W.cell? ⟨b, o + q, none⟩ = some (.int .i64 (inth vs q)) := by
  obtain ⟨rfl, hN⟩ := nums_of_own (vs := vs) h.vs hb
  obtain ⟨b', o', e, hc⟩ := hN.opn (by omega)
  cases e
  exact hc W q (Ext.refl W) hq
theorem own_of_R {w : World} {base : Nat} {v : Value} {l : List Int} (h : YtebjiimlcnmfpaaGreatW.PrintWords.Kd.R (YtebjiimlcnmfpaaGreatW.PrintWords.Kd.int .i64) 3 w base (fun _ => True) v l) : w.ownsRow base 3 1 v l.length (l.flatMap intCs) := by
  obtain ⟨_, cells, h1, h2, h3⟩ := h
  have h1' : w.ownsRow base 3 1 v l.length cells := h1
  have e : cells = l.flatMap intCs := by
    have e2 : l.flatMap intCs = l.map (Value.int .i64) := by rw [List.map_eq_flatMap]; rfl
    have hl : (l.flatMap intCs).length = l.length := by rw [e2, List.length_map]
    refine List.ext_getElem? fun j => ?_
    rcases Nat.lt_or_ge j l.length with hj | hj
    · have := h3 j l[j] (List.getElem?_eq_getElem hj)
      have hm : (cells.drop (j * 1)).take 1 = [.int .i64 l[j]] := this
      have hc : cells.length = l.length := by have := h1'.1; omega
      rw [Nat.mul_one, List.drop_eq_getElem_cons (by omega), List.take_succ_cons, List.take_zero] at hm
      injection hm with hm
      rw [List.getElem?_eq_getElem (by omega), hm]
      rw [e2, List.getElem?_map, List.getElem?_eq_getElem hj]
      rfl
    · have hc : cells.length = l.length := by have := h1'.1; omega
      rw [List.getElem?_eq_none (by omega), List.getElem?_eq_none (by omega)]
  rw [e] at h1'
  exact h1'
/-- Where a value stands in a row, from a place on. -/
def seenD (l : List Ev) (vs : List Int) (i m : Nat) : Int := idx (fun k : Int => decide ((nth l k.toNat).val = (nth l i).val)) (vs.drop m) m
theorem seenD_end (l : List Ev) (vs : List Int) (i : Nat) : seenD l vs i vs.length = -1 := by unfold seenD; rw [List.drop_eq_nil_of_le (Nat.le_refl _)]; rfl
theorem seenD_all (l : List Ev) (vs : List Int) (i : Nat) : seenD l vs i 0 = Go.Proofs.YtebjiimlcnmfpaaGreat.seen l vs i := by unfold seenD Go.Proofs.YtebjiimlcnmfpaaGreat.seen; rw [List.drop_zero]; rfl
theorem seenD_step (l : List Ev) (vs : List Int) (i : Nat) {m : Nat} (h : m < vs.length) : seenD l vs i m = if (nth l (inth vs m).toNat).val = (nth l i).val then (m : Int) else seenD l vs i (m + 1) := by
  have hm : vs[m] = inth vs m := by rw [inth_get h]
  unfold seenD
  rw [List.drop_eq_getElem_cons h, hm]
  by_cases hv : (nth l (inth vs m).toNat).val = (nth l i).val
  · rw [if_pos hv]
    simp [idx, hv]
  · rw [if_neg hv]
    simp [idx, hv]
/-- The loops in a code, in order. -/
def loopsOf : Code → List Code
  | .loop c => c :: loopsOf c
  | .seq a b => loopsOf a ++ loopsOf b
  | .block _ c => loopsOf c
  | .scope c => loopsOf c
  | .cond _ a b => loopsOf a ++ loopsOf b
  | _ => []
noncomputable def c10i : Code := ((Tryz.f22.body.map loopsOf).getD []).getD 2 .skip
/-- The loop is left, and by no other way. -/
def Q4 (X : Act → World → Prop) : Exit → Act → World → Prop
  | .exit n, a, w => n = 4 ∧ X a w
  | _, _, _ => False
theorem q4_mono {P : Program} {c : Code} {Q : Exit → Act → World → Prop} {a : Act} {w : World} (h : c.wp P (Q4 (fun a w => Q (.exit 4) a w)) a w) : c.wp P Q a w :=
  wp_mono h fun e a w hq => by
    cases e with
    | exit n => obtain ⟨rfl, hx⟩ := hq; exact hx
    | _ => exact hq.elim
set_option maxRecDepth 1000000 in
set_option maxHeartbeats 16000000 in
theorem r10_iloop {w w2 wl : World} {A : Option Addr} {cap : Nat} {xs : List S50} {l : List Ev} {ks : List ByteArray} {b2 o2 c2 k : Nat} {key : ByteArray} {A3 : Option Addr} {c3 : Nat} {vs : List Int} {p1 : List Go.Proofs.YtebjiimlcnmfpaaGreat.Edge} {o3 : Value} {s1 s2 s7 s9 s10 s11 s12 s13 s14 s15 s16 s17 s18 s19 s20 s21 s22 s23 s24 s25 s26 s27 s28 s29 s30 s31 s32 s33 s34 s35 s36 s37 s38 s39 s40 s41 s42 s43 s44 s45 s46 s47 s48 s49 s50 s51 s52 s53 s54 s55 s56 s57 s58 s59 s60 s61 s62 s63 s64 s65 s66 s67 s68 s69 s70 s71 s72 s73 s74 s75 s76 s77 s78 s79 s80 s81 s82 s83 s84 s85 s86 s87 s88 s89 s90 s91 s92 s93 s94 s95 s96 s97 s98 s99 s100 s101 s102 s103 s104 s105 s106 s107 s108 s109 s110 s111 s112 s113 s114 s115 s116 s117 s118 s119 s120 s121 s122 s123 s124 s125 s126 s127 s128 s129 s130 s131 s132 s133 s134 s135 s136 s137 s138 s139 s140 s141 s142 s143 s144 s145 s146 s147 s148 s149 s150 s151 s152 s153 s154 s155 s156 s157 s158 s159 s160 s161 s162 s163 s164 s165 s166 s167 s168 s169 s170 s171 s172 s173 s174 s175 s176 s177 s178 s179 s180 s181 s182 s183 s184 s185 s186 s187 s188 s189 s190 s191 s192 s193 s194 s195 s196 s197 s198 s199 s200 s201 s202 s203 s204 s205 s206 s207 s208 s209 s210 s211 s212 s213 s214 s215 s216 s217 s218 s219 s220 s221 s222 : Value} {X : Act → World → Prop}
    (hcap : xs.length ≤ cap) (hn : xs.length ≤ 300) (hX2 : Ext w w2) (HC : Hid (YtebjiimlcnmfpaaGreatW.PrintWords.Kd.C k50 w A xs.length xs)) (HE : Hid (Evs w A xs.length l)) (hls : evs xs = l) (hll : l.length = xs.length) (hkl : ks.length ≤ 300)
    (HS0 : Hid (∀ W i, Ext w2 W → i < ks.length → W.cell? ⟨b2, o2 + i, none⟩ = some (.string (knth ks i)))) (hlt : k < ks.length) (hkey : knth ks k = key) (HVP : Hid (∀ q, q < vs.length → ∃ u : Nat, inth vs q = u ∧ u < l.length)) (hvl : vs.length ≤ 300) (hpl2 : p1.length ≤ k * 3000 + 300) (hI : AInv w2 o3 p1 (.slice A3 vs.length c3) vs wl)
    (hexit : ∀ (u3 u8 u9 u10 u11 u81 u82 u83 u84 u85 u86 u87 u88 u89 u90 u91 u92 u93 u94 u95 u96 u97 u98 u99 u100 u101 u102 u103 u104 u105 u106 u107 u108 u109 u110 u111 u112 u113 u114 u115 u116 u117 u118 u119 u120 u121 u122 u123 u124 u125 u126 u127 u128 u129 u130 u131 u132 u133 u134 u135 u136 u137 u138 u139 u140 u141 u142 u143 u144 u145 u146 u147 u148 u149 u150 u151 u152 u153 u154 u155 u156 u157 u158 u159 u160 u161 u162 u163 u164 u165 u166 u167 u168 u169 u170 u171 u172 u173 u174 u175 u176 u177 u178 u179 u180 u181 u182 u183 u184 u185 u186 u187 u188 u189 u190 u191 u192 u193 u194 u195 u196 u197 u198 u199 u200 u201 u202 u203 u204 u205 u206 u207 u208 u209 u210 u211 u212 u213 u214 u215 u216 u217 u218 u219 u220 u221 : Value) (W : World) (p2 : List Go.Proofs.YtebjiimlcnmfpaaGreat.Edge), AInv w2 u3 p2 (.slice A3 vs.length c3) vs W → p2.length ≤ k * 3000 + 300 + 2 * l.length → Hid (p2 = p1 ++ (List.range l.length).flatMap (readE l key vs)) → X ⟨(List.toArray (.slice A xs.length cap :: s1 :: s2 :: u3 :: .slice (some ⟨b2, o2, none⟩) ks.length c2 :: .int .i64 k :: .slice A3 vs.length c3 :: s7 :: u8 :: u9 :: u10 :: u11 :: s12 :: s13 :: s14 :: s15 :: s16 :: s17 :: s18 :: s19 :: s20 :: s21 :: s22 :: s23 :: s24 :: s25 :: s26 :: s27 :: s28 :: s29 :: s30 :: s31 :: s32 :: s33 :: s34 :: s35 :: s36 :: s37 :: s38 :: s39 :: s40 :: s41 :: s42 :: s43 :: s44 :: s45 :: s46 :: s47 :: s48 :: s49 :: s50 :: s51 :: s52 :: s53 :: s54 :: s55 :: s56 :: s57 :: s58 :: s59 :: s60 :: s61 :: s62 :: s63 :: s64 :: s65 :: s66 :: s67 :: s68 :: s69 :: s70 :: s71 :: s72 :: s73 :: s74 :: s75 :: s76 :: s77 :: s78 :: s79 :: s80 :: u81 :: u82 :: u83 :: u84 :: u85 :: u86 :: u87 :: u88 :: u89 :: u90 :: u91 :: u92 :: u93 :: u94 :: u95 :: u96 :: u97 :: u98 :: u99 :: u100 :: u101 :: u102 :: u103 :: u104 :: u105 :: u106 :: u107 :: u108 :: u109 :: u110 :: u111 :: u112 :: u113 :: u114 :: u115 :: u116 :: u117 :: u118 :: u119 :: u120 :: u121 :: u122 :: u123 :: u124 :: u125 :: u126 :: u127 :: u128 :: u129 :: u130 :: u131 :: u132 :: u133 :: u134 :: u135 :: u136 :: u137 :: u138 :: u139 :: u140 :: u141 :: u142 :: u143 :: u144 :: u145 :: u146 :: u147 :: u148 :: u149 :: u150 :: u151 :: u152 :: u153 :: u154 :: u155 :: u156 :: u157 :: u158 :: u159 :: u160 :: u161 :: u162 :: u163 :: u164 :: u165 :: u166 :: u167 :: u168 :: u169 :: u170 :: u171 :: u172 :: u173 :: u174 :: u175 :: u176 :: u177 :: u178 :: u179 :: u180 :: u181 :: u182 :: u183 :: u184 :: u185 :: u186 :: u187 :: u188 :: u189 :: u190 :: u191 :: u192 :: u193 :: u194 :: u195 :: u196 :: u197 :: u198 :: u199 :: u200 :: u201 :: u202 :: u203 :: u204 :: u205 :: u206 :: u207 :: u208 :: u209 :: u210 :: u211 :: u212 :: u213 :: u214 :: u215 :: u216 :: u217 :: u218 :: u219 :: u220 :: u221 :: s222 :: [])), []⟩ W) :
    Code.wp Tryz.prog (Code.loop c10i) (Q4 X) ⟨(List.toArray (.slice A xs.length cap :: s1 :: s2 :: o3 :: .slice (some ⟨b2, o2, none⟩) ks.length c2 :: .int .i64 k :: .slice A3 vs.length c3 :: s7 :: .int .i64 0 :: s9 :: s10 :: s11 :: s12 :: s13 :: s14 :: s15 :: s16 :: s17 :: s18 :: s19 :: s20 :: s21 :: s22 :: s23 :: s24 :: s25 :: s26 :: s27 :: s28 :: s29 :: s30 :: s31 :: s32 :: s33 :: s34 :: s35 :: s36 :: s37 :: s38 :: s39 :: s40 :: s41 :: s42 :: s43 :: s44 :: s45 :: s46 :: s47 :: s48 :: s49 :: s50 :: s51 :: s52 :: s53 :: s54 :: s55 :: s56 :: s57 :: s58 :: s59 :: s60 :: s61 :: s62 :: s63 :: s64 :: s65 :: s66 :: s67 :: s68 :: s69 :: s70 :: s71 :: s72 :: s73 :: s74 :: s75 :: s76 :: s77 :: s78 :: s79 :: s80 :: s81 :: s82 :: s83 :: s84 :: s85 :: s86 :: s87 :: s88 :: s89 :: s90 :: s91 :: s92 :: s93 :: s94 :: s95 :: s96 :: s97 :: s98 :: s99 :: s100 :: s101 :: s102 :: s103 :: s104 :: s105 :: s106 :: s107 :: s108 :: s109 :: s110 :: s111 :: s112 :: s113 :: s114 :: s115 :: s116 :: s117 :: s118 :: s119 :: s120 :: s121 :: s122 :: s123 :: s124 :: s125 :: s126 :: s127 :: s128 :: s129 :: s130 :: s131 :: s132 :: s133 :: s134 :: s135 :: s136 :: s137 :: s138 :: s139 :: s140 :: s141 :: s142 :: s143 :: s144 :: s145 :: s146 :: s147 :: s148 :: s149 :: s150 :: s151 :: s152 :: s153 :: s154 :: s155 :: s156 :: s157 :: s158 :: s159 :: s160 :: s161 :: s162 :: s163 :: s164 :: s165 :: s166 :: s167 :: s168 :: s169 :: s170 :: s171 :: s172 :: s173 :: s174 :: s175 :: s176 :: s177 :: s178 :: s179 :: s180 :: s181 :: s182 :: s183 :: s184 :: s185 :: s186 :: s187 :: s188 :: s189 :: s190 :: s191 :: s192 :: s193 :: s194 :: s195 :: s196 :: s197 :: s198 :: s199 :: s200 :: s201 :: s202 :: s203 :: s204 :: s205 :: s206 :: s207 :: s208 :: s209 :: s210 :: s211 :: s212 :: s213 :: s214 :: s215 :: s216 :: s217 :: s218 :: s219 :: s220 :: s221 :: s222 :: [])), []⟩ wl := by
  have HX := hid hexit
  clear hexit
  conv => arg 2; arg 1; whnf
  go_loopg [3, 8] l.length (fun n_ out iv W => ∃ (i : Nat) (p2 : List Go.Proofs.YtebjiimlcnmfpaaGreat.Edge), i ≤ l.length ∧ l.length ≤ n_ + i ∧ iv = .int .i64 i ∧ AInv w2 out p2 (.slice A3 vs.length c3) vs W ∧ p2.length ≤ k * 3000 + 300 + 2 * i ∧ Hid (p2 = p1 ++ (List.range i).flatMap (readE l key vs)))
  case atStart => exact ⟨0, p1, by omega, by omega, rfl, hI, by omega, hid (by simp)⟩
  case round =>
    obtain ⟨i, p2, hi1, hgi, rfl, hI, hpl3, hr2⟩ := hrel
    by_cases hlt2 : i < l.length
    case neg =>
      obtain rfl : i = l.length := by omega
      go_wp2
      exact ⟨rfl, HX.out _ _ _ _ _ _ _ _ _ _ _ _ _ _ _ _ _ _ _ _ _ _ _ _ _ _ _ _ _ _ _ _ _ _ _ _ _ _ _ _ _ _ _ _ _ _ _ _ _ _ _ _ _ _ _ _ _ _ _ _ _ _ _ _ _ _ _ _ _ _ _ _ _ _ _ _ _ _ _ _ _ _ _ _ _ _ _ _ _ _ _ _ _ _ _ _ _ _ _ _ _ _ _ _ _ _ _ _ _ _ _ _ _ _ _ _ _ _ _ _ _ _ _ _ _ _ _ _ _ _ _ _ _ _ _ _ _ _ _ _ _ _ _ _ _ _ _ p2 hI hpl3 hr2⟩
    obtain ⟨be, oe, rfl, e0, e1, e2, e3⟩ := HE.out.opn (by omega)
    have hi3 : i < xs.length := by omega
    have E1 := hid e1
    have E2 := hid e2
    have E3 := hid e3
    clear e0 e1 e2 e3
    have hXi : Ext w wr := hX2.trans hI.ext
    have HCi := hid (YtebjiimlcnmfpaaGreatW.PrintWords.Kd.C_below HC.out hXi)
    obtain ⟨ot, hot⟩ : ∃ ot, outer l i = ot := ⟨_, rfl⟩
    have HOf : Hid (cartoucheref09_Outer.f xs (i : Int) = some ot) := hid (by
      unfold cartoucheref09_Outer.f
      rw [if_pos (by omega), hls, hot])
    have hrs0 : Hid (p1 ++ (List.range (i + 1)).flatMap (readE l key vs) = (p1 ++ (List.range i).flatMap (readE l key vs)) ++ readE l key vs i) := hid (by
      rw [List.range_succ, List.flatMap_append, List.append_assoc]
      simp)
    by_cases hkk : (nth l i).key = key
    case neg =>
      have hrs : Hid (p1 ++ (List.range (i + 1)).flatMap (readE l key vs) = p1 ++ (List.range i).flatMap (readE l key vs)) := hid (by
        rw [hrs0.out]
        unfold readE
        rw [if_neg (fun h => hkk h.1), List.append_nil])
      clear hot hrs0
      go_wp2_with (go_at_call 51; (with_reducible refine (cartoucheref09_Outer.calls _ cap xs (i : Int) ot _ HCi.out hcap HOf.out).mono ?_); rintro e w5 ⟨rfl, hx5⟩; have hJ := hI.go hx5; have hX5 : Ext w w5 := hX2.trans hJ.ext; have xk := HS0.out w5 k hJ.ext hlt; rw [hkey] at xk; have y2 := E2.out w5 i hX5 hi3)
      go_quiet (fail)
      go_wp2
      go_roundg (l.length - (i + 1))
      case measure => omega
      case rel => exact ⟨i + 1, p2, by omega, by omega, by go_num, hJ.go ((Ext.refl _).drewN _), by omega, hid (by rw [hrs.out, hr2.out])⟩
    cases ot
    case false =>
      have hrs : Hid (p1 ++ (List.range (i + 1)).flatMap (readE l key vs) = p1 ++ (List.range i).flatMap (readE l key vs)) := hid (by
        rw [hrs0.out]
        unfold readE
        rw [if_neg (fun h => by rw [hot] at h; cases h.2), List.append_nil])
      clear hot hrs0
      go_wp2_with (go_at_call 51; (with_reducible refine (cartoucheref09_Outer.calls _ cap xs (i : Int) false _ HCi.out hcap HOf.out).mono ?_); rintro e w5 ⟨rfl, hx5⟩; have hJ := hI.go hx5; have hX5 : Ext w w5 := hX2.trans hJ.ext; have xk := HS0.out w5 k hJ.ext hlt; rw [hkey] at xk; have y2 := E2.out w5 i hX5 hi3)
      rw [hkk] at y2
      go_quiet (fail)
      go_wp2
      go_roundg (l.length - (i + 1))
      case measure => omega
      case rel => exact ⟨i + 1, p2, by omega, by omega, by go_num, hJ.go ((Ext.refl _).drewN _), by omega, hid (by rw [hrs.out, hr2.out])⟩
    have hrd : readE l key vs i = (if Go.Proofs.YtebjiimlcnmfpaaGreat.seen l vs i < 0 ∧ (nth l i).val ≠ ByteArray.empty then [] else (if 0 ≤ Go.Proofs.YtebjiimlcnmfpaaGreat.seen l vs i then putE l 2 (inth vs (Go.Proofs.YtebjiimlcnmfpaaGreat.seen l vs i).toNat).toNat i else []) ++ (if Go.Proofs.YtebjiimlcnmfpaaGreat.seen l vs i + 1 < vs.length then putE l 3 i (inth vs (Go.Proofs.YtebjiimlcnmfpaaGreat.seen l vs i + 1).toNat).toNat else [])) := by
      unfold readE
      rw [if_pos ⟨hkk, hot⟩]
    rw [hrd] at hrs0
    clear hrd hot
    go_wp2_with (go_at_call 51; (with_reducible refine (cartoucheref09_Outer.calls _ cap xs (i : Int) true _ HCi.out hcap HOf.out).mono ?_); rintro e w5 ⟨rfl, hx5⟩; have hJ := hI.go hx5; have hX5 : Ext w w5 := hX2.trans hJ.ext; have xk := HS0.out w5 k hJ.ext hlt; rw [hkey] at xk; have y2 := E2.out w5 i hX5 hi3)
    rw [hkk] at y2
    go_quiet (fail)
    go_wp2
    have hK6 := hJ.go ((Ext.refl w5).drewN nq)
    obtain ⟨w6, hw6⟩ : ∃ W, w5.drewN nq = W := ⟨_, rfl⟩
    rw [hw6] at hK6 ⊢
    clear hw6 y2 xk
    go_loopg [10, 11] vs.length (fun n_ av mv W => ∃ m : Nat, m ≤ vs.length ∧ m ≤ n_ ∧ mv = .int .i64 ((m : Int) - 1) ∧ av = .int .i64 (seenD l vs i m) ∧ AInv w2 u3 p2 (.slice A3 vs.length c3) vs W)
    case atStart => exact ⟨vs.length, by omega, by omega, by go_num, by rw [seenD_end], hK6⟩
    case round =>
      obtain ⟨m, hm, hgm, rfl, rfl, hM⟩ := hrel
      have hXm : Ext w wr := hX2.trans hM.ext
      have y3i := E3.out wr i hXm hi3
      by_cases hm0 : m = 0
      case neg =>
        obtain ⟨m', rfl⟩ : ∃ m', m = m' + 1 := ⟨m - 1, by omega⟩
        rw [show ((m' + 1 : Nat) : Int) - 1 = (m' : Int) by omega]
        obtain ⟨u, hu, hul⟩ := HVP.out m' (by omega)
        obtain ⟨b3, o3, rfl, -⟩ := (nums_of_own (vs := vs) hM.vs (by omega)).2.opn (by omega)
        have x0 := hM.cell (by omega) (q := m') (by omega)
        rw [hu] at x0
        have y3 := E3.out wr u hXm (by omega)
        have hsd := seenD_step l vs i (m := m') (by omega)
        rw [hu, Int.toNat_natCast] at hsd
        by_cases hv : (nth l u).val = (nth l i).val
        · rw [if_pos hv] at hsd
          have HSD := hid hsd
          rw [hv] at y3
          clear hsd hv
          go_wp2
          go_quiet (fail)
          go_wp2
          go_roundg m'
          case measure => omega
          case rel => exact ⟨m', by omega, by omega, by go_num, by rw [HSD.out], hM.go ((Ext.refl _).drewN _)⟩
        · rw [if_neg hv] at hsd
          have HSD := hid hsd
          clear hsd
          go_wp2
          go_quiet (fail)
          go_wp2
          go_roundg m'
          case measure => omega
          case rel => exact ⟨m', by omega, by omega, by go_num, by rw [HSD.out], hM.go ((Ext.refl _).drewN _)⟩
      subst hm0
      rw [seenD_all]
      have hsr := seen_range l vs i
      clear hJ hK6 hI
      by_cases hA : Go.Proofs.YtebjiimlcnmfpaaGreat.seen l vs i < 0
      case pos =>
        have hse : Go.Proofs.YtebjiimlcnmfpaaGreat.seen l vs i = -1 := by omega
        rw [hse] at hrs0 ⊢
        by_cases hve : (nth l i).val = ByteArray.empty
        case neg =>
          have hv2 := ne_isEmpty hve
          have hrs := hid (hrs0.out.trans (by rw [if_pos ⟨by omega, hve⟩, List.append_nil]))
          clear hrs0
          go_wp2
          go_roundg (l.length - (i + 1))
          case measure => omega
          case rel => exact ⟨i + 1, p2, by omega, by omega, by go_num, hM, by omega, hid (by rw [hrs.out, hr2.out])⟩
        rw [hve] at y3i
        have hr3 : p1 ++ (List.range (i + 1)).flatMap (readE l key vs) = (p1 ++ (List.range i).flatMap (readE l key vs)) ++ (if 0 < vs.length then putE l 3 i (inth vs 0).toNat else []) := by
          rw [hrs0.out, if_neg (fun h => h.2 hve), if_neg (by omega), List.nil_append, show ((-1 : Int) + 1).toNat = 0 from rfl]
          congr 1
          by_cases z : 0 < vs.length
          · rw [if_pos z, if_pos (by omega)]
          · rw [if_neg z, if_neg (by omega)]
        clear hrs0
        go_wp2
        go_quiet (fail)
        go_wp2
        have hMq := hM.go ((Ext.refl wr).drewN nq)
        obtain ⟨w7, hw7⟩ : ∃ W, wr.drewN nq = W := ⟨_, rfl⟩
        rw [hw7] at hMq ⊢
        clear hw7 y3i hM hXm
        have hX7 : Ext w w7 := hX2.trans hMq.ext
        by_cases hn1 : 0 < vs.length
        case neg =>
          have hn2 : ¬ ((0 : Int) < (vs.length : Int)) := by omega
          have hrs := hid (hr3.trans (by rw [if_neg hn1, List.append_nil]))
          go_quiet (fail)
          go_wp2
          go_roundg (l.length - (i + 1))
          case measure => omega
          case rel => exact ⟨i + 1, p2, by omega, by omega, by go_num, hMq.go ((Ext.refl _).drewN _), by omega, hid (by rw [hr2.out]; exact (hrs.out.trans (by simp)).symm)⟩
        have hn2 : (0 : Int) < (vs.length : Int) := by omega
        obtain ⟨v, hv, hvl⟩ := HVP.out (0) hn1
        obtain ⟨b3, o3, rfl, -⟩ := (nums_of_own (vs := vs) hMq.vs (by omega)).2.opn (by omega)
        have fv : w7.cell? ⟨b3, o3, none⟩ = some (.int .i64 (v : Int)) := by have := hMq.cell (by omega) (q := 0) (by omega); rw [Nat.add_zero, hv] at this; exact this
        have fi : w7.cell? ⟨be, oe + i * 4 + 1, none⟩ = some (.int .i64 (nth l i).txn) := E1.out w7 i hX7 (by omega)
        have fv2 : w7.cell? ⟨be, oe + v * 4 + 1, none⟩ = some (.int .i64 (nth l v).txn) := E1.out w7 v hX7 (by omega)
        rw [if_pos hn1, hv, Int.toNat_natCast] at hr3
        by_cases ht2 : (nth l i).txn = (nth l v).txn
        case pos =>
          rw [← ht2] at fv2
          have hrs := hid (hr3.trans (by unfold putE; rw [if_pos ht2, List.append_nil]))
          go_quiet (fail)
          go_wp2
          go_roundg (l.length - (i + 1))
          case measure => omega
          case rel => exact ⟨i + 1, p2, by omega, by omega, by go_num, hMq.go ((Ext.refl _).drewN _), by omega, hid (by rw [hr2.out]; exact (hrs.out.trans (by simp)).symm)⟩
        have hb2 : ((nth l v).txn == (nth l i).txn) = false := by simp; exact fun h => ht2 h.symm
        have hrs := hid (hr3.trans (by unfold putE; rw [if_neg ht2]))
        go_quiet (fail)
        go_wp2
        have hIa9 := hMq.go ((Ext.refl w7).drewN (nq + 1))
        obtain ⟨v9, w9, hrun9, hown9, hgrow9, _⟩ := app_edge (W := w7.drewN (nq + 1)) hIa9.out hIa9.ext.le (by first | omega | (simp; omega)) 28 ⟨3, (nth l i).txn, (nth l v).txn, i, v⟩
        replace hrun9 : (Builtin.append_ #[28, 28] 28 #[u3, .slice (some ⟨w7.heap.size, 0, none⟩) 1 1]).run Tryz.prog ((w7.drewN (nq + 1)).alloc (.cells #[.int .i64 3, .int .i64 (nth l i).txn, .int .i64 (nth l v).txn, .int .i64 i, .int .i64 v] 24)) = .ok v9 w9 := hrun9
        have hI9 := hIa9.put hgrow9 hown9
        have hX9 : Ext w w9 := hX2.trans hI9.ext
        have z9v : w9.cell? ⟨b3, o3, none⟩ = some (.int .i64 (v : Int)) := by have := hI9.cell (by omega) (q := 0) (by omega); rw [Nat.add_zero, hv] at this; exact this
        have z9i : w9.cell? ⟨be, oe + i * 4 + 1, none⟩ = some (.int .i64 (nth l i).txn) := E1.out w9 i hX9 (by omega)
        have z9v2 : w9.cell? ⟨be, oe + v * 4 + 1, none⟩ = some (.int .i64 (nth l v).txn) := E1.out w9 v hX9 (by omega)
        clear hgrow9 hown9
        have hrunb9 : (Builtin.append_ #[28, 28] 28 #[u3, .slice (some ⟨w7.heap.size, 0, none⟩) 1 1]).run Tryz.prog ((w7.drewN nq).drew.alloc (.cells #[.int .i64 3, .int .i64 (nth l i).txn, .int .i64 (nth l v).txn, .int .i64 i, .int .i64 v] 24)) = .ok v9 w9 := hrun9
        go_region
        go_wp2
        go_roundg (l.length - (i + 1))
        case measure => omega
        case rel => exact ⟨i + 1, _, by omega, by omega, by go_num, hI9, by simp; omega, hid (by rw [hr2.out]; exact (hrs.out.trans (by simp)).symm)⟩
      obtain ⟨s, hs⟩ : ∃ s : Nat, Go.Proofs.YtebjiimlcnmfpaaGreat.seen l vs i = s := ⟨(Go.Proofs.YtebjiimlcnmfpaaGreat.seen l vs i).toNat, by omega⟩
      rw [hs] at hsr hrs0 ⊢
      have hsl : s < vs.length := by omega
      obtain ⟨u, hu, hul⟩ := HVP.out s hsl
      obtain ⟨b3, o3, rfl, -⟩ := (nums_of_own (vs := vs) hM.vs (by omega)).2.opn (by omega)
      have hr4 : p1 ++ (List.range (i + 1)).flatMap (readE l key vs) = (p1 ++ (List.range i).flatMap (readE l key vs)) ++ (putE l 2 u i ++ (if s + 1 < vs.length then putE l 3 i (inth vs (s + 1)).toNat else [])) := by
        rw [hrs0.out, if_neg (by omega), if_pos (by omega), Int.toNat_natCast, hu, Int.toNat_natCast, show ((s : Int) + 1).toNat = s + 1 by omega]
        congr 2
        by_cases z : s + 1 < vs.length
        · rw [if_pos z, if_pos (by omega)]
        · rw [if_neg z, if_neg (by omega)]
      clear hrs0
      have gs : wr.cell? ⟨b3, o3 + s, none⟩ = some (.int .i64 (u : Int)) := by have := hM.cell (by omega) (q := s) (by omega); rw [hu] at this; exact this
      have gu : wr.cell? ⟨be, oe + u * 4 + 1, none⟩ = some (.int .i64 (nth l u).txn) := E1.out wr u hXm (by omega)
      have gi : wr.cell? ⟨be, oe + i * 4 + 1, none⟩ = some (.int .i64 (nth l i).txn) := E1.out wr i hXm (by omega)
      by_cases ht1 : (nth l u).txn = (nth l i).txn
      case pos =>
        rw [ht1] at gu
        have hr3 : p1 ++ (List.range (i + 1)).flatMap (readE l key vs) = (p1 ++ (List.range i).flatMap (readE l key vs)) ++ (if s + 1 < vs.length then putE l 3 i (inth vs (s + 1)).toNat else []) := by
          rw [hr4]; unfold putE; rw [if_pos ht1, List.nil_append]
        clear hr4
        go_wp2
        go_quiet (fail)
        go_wp2
        have hMq := hM.go ((Ext.refl wr).drewN nq)
        obtain ⟨w7, hw7⟩ : ∃ W, wr.drewN nq = W := ⟨_, rfl⟩
        rw [hw7] at hMq ⊢
        clear hw7 y3i hM hXm gs gu gi
        have hX7 : Ext w w7 := hX2.trans hMq.ext
        by_cases hn1 : s + 1 < vs.length
        case neg =>
          have hn2 : ¬ ((s : Int) + 1 < (vs.length : Int)) := by omega
          have hrs := hid (hr3.trans (by rw [if_neg hn1, List.append_nil]))
          go_quiet (fail)
          go_wp2
          go_roundg (l.length - (i + 1))
          case measure => omega
          case rel => exact ⟨i + 1, p2, by omega, by omega, by go_num, hMq.go ((Ext.refl _).drewN _), by omega, hid (by rw [hr2.out]; exact (hrs.out.trans (by simp)).symm)⟩
        have hn2 : (s : Int) + 1 < (vs.length : Int) := by omega
        obtain ⟨v, hv, hvl⟩ := HVP.out (s + 1) hn1
        have fv : w7.cell? ⟨b3, o3 + (s + 1), none⟩ = some (.int .i64 (v : Int)) := by have := hMq.cell (by omega) (q := s + 1) (by omega); rw [hv] at this; exact this
        have fi : w7.cell? ⟨be, oe + i * 4 + 1, none⟩ = some (.int .i64 (nth l i).txn) := E1.out w7 i hX7 (by omega)
        have fv2 : w7.cell? ⟨be, oe + v * 4 + 1, none⟩ = some (.int .i64 (nth l v).txn) := E1.out w7 v hX7 (by omega)
        rw [if_pos hn1, hv, Int.toNat_natCast] at hr3
        by_cases ht2 : (nth l i).txn = (nth l v).txn
        case pos =>
          rw [← ht2] at fv2
          have hrs := hid (hr3.trans (by unfold putE; rw [if_pos ht2, List.append_nil]))
          go_quiet (fail)
          go_wp2
          go_roundg (l.length - (i + 1))
          case measure => omega
          case rel => exact ⟨i + 1, p2, by omega, by omega, by go_num, hMq.go ((Ext.refl _).drewN _), by omega, hid (by rw [hr2.out]; exact (hrs.out.trans (by simp)).symm)⟩
        have hb2 : ((nth l v).txn == (nth l i).txn) = false := by simp; exact fun h => ht2 h.symm
        have hrs := hid (hr3.trans (by unfold putE; rw [if_neg ht2]))
        go_quiet (fail)
        go_wp2
        have hIa9 := hMq.go ((Ext.refl w7).drewN (nq + 1))
        obtain ⟨v9, w9, hrun9, hown9, hgrow9, _⟩ := app_edge (W := w7.drewN (nq + 1)) hIa9.out hIa9.ext.le (by first | omega | (simp; omega)) 28 ⟨3, (nth l i).txn, (nth l v).txn, i, v⟩
        replace hrun9 : (Builtin.append_ #[28, 28] 28 #[u3, .slice (some ⟨w7.heap.size, 0, none⟩) 1 1]).run Tryz.prog ((w7.drewN (nq + 1)).alloc (.cells #[.int .i64 3, .int .i64 (nth l i).txn, .int .i64 (nth l v).txn, .int .i64 i, .int .i64 v] 24)) = .ok v9 w9 := hrun9
        have hI9 := hIa9.put hgrow9 hown9
        have hX9 : Ext w w9 := hX2.trans hI9.ext
        have z9v : w9.cell? ⟨b3, o3 + (s + 1), none⟩ = some (.int .i64 (v : Int)) := by have := hI9.cell (by omega) (q := s + 1) (by omega); rw [hv] at this; exact this
        have z9i : w9.cell? ⟨be, oe + i * 4 + 1, none⟩ = some (.int .i64 (nth l i).txn) := E1.out w9 i hX9 (by omega)
        have z9v2 : w9.cell? ⟨be, oe + v * 4 + 1, none⟩ = some (.int .i64 (nth l v).txn) := E1.out w9 v hX9 (by omega)
        clear hgrow9 hown9
        have hrunb9 : (Builtin.append_ #[28, 28] 28 #[u3, .slice (some ⟨w7.heap.size, 0, none⟩) 1 1]).run Tryz.prog ((w7.drewN nq).drew.alloc (.cells #[.int .i64 3, .int .i64 (nth l i).txn, .int .i64 (nth l v).txn, .int .i64 i, .int .i64 v] 24)) = .ok v9 w9 := hrun9
        go_region
        go_wp2
        go_roundg (l.length - (i + 1))
        case measure => omega
        case rel => exact ⟨i + 1, _, by omega, by omega, by go_num, hI9, by simp; omega, hid (by rw [hr2.out]; exact (hrs.out.trans (by simp)).symm)⟩
      have hb1 : ((nth l u).txn == (nth l i).txn) = false := by simp [ht1]
      have hr3 : p1 ++ (List.range (i + 1)).flatMap (readE l key vs) = ((p1 ++ (List.range i).flatMap (readE l key vs)) ++ [⟨2, (nth l u).txn, (nth l i).txn, u, i⟩]) ++ (if s + 1 < vs.length then putE l 3 i (inth vs (s + 1)).toNat else []) := by
        rw [hr4, List.append_assoc _ [_]]; congr 1; unfold putE; rw [if_neg ht1]
      clear hr4
      go_wp2
      go_quiet (fail)
      go_wp2
      have hIa8 := hM.go ((Ext.refl wr).drewN (nq + 1))
      obtain ⟨v8, w8, hrun8, hown8, hgrow8, _⟩ := app_edge (W := wr.drewN (nq + 1)) hIa8.out hIa8.ext.le (by first | omega | (simp; omega)) 28 ⟨2, (nth l u).txn, (nth l i).txn, u, i⟩
      replace hrun8 : (Builtin.append_ #[28, 28] 28 #[u3, .slice (some ⟨wr.heap.size, 0, none⟩) 1 1]).run Tryz.prog ((wr.drewN (nq + 1)).alloc (.cells #[.int .i64 2, .int .i64 (nth l u).txn, .int .i64 (nth l i).txn, .int .i64 u, .int .i64 i] 24)) = .ok v8 w8 := hrun8
      have hI8 := hIa8.put hgrow8 hown8
      have hX8 : Ext w w8 := hX2.trans hI8.ext
      have z8s : w8.cell? ⟨b3, o3 + s, none⟩ = some (.int .i64 (u : Int)) := by have := hI8.cell (by omega) (q := s) (by omega); rw [hu] at this; exact this
      have z8u : w8.cell? ⟨be, oe + u * 4 + 1, none⟩ = some (.int .i64 (nth l u).txn) := E1.out w8 u hX8 (by omega)
      have z8i : w8.cell? ⟨be, oe + i * 4 + 1, none⟩ = some (.int .i64 (nth l i).txn) := E1.out w8 i hX8 (by omega)
      clear hgrow8 hown8
      have hrunb8 : (Builtin.append_ #[28, 28] 28 #[u3, .slice (some ⟨wr.heap.size, 0, none⟩) 1 1]).run Tryz.prog ((wr.drewN nq).drew.alloc (.cells #[.int .i64 2, .int .i64 (nth l u).txn, .int .i64 (nth l i).txn, .int .i64 u, .int .i64 i] 24)) = .ok v8 w8 := hrun8
      go_region
      go_wp2
      clear hM hXm y3i gs gu gi hIa8 hrun8 z8s z8u z8i
      by_cases hn1 : s + 1 < vs.length
      case neg =>
        have hn2 : ¬ ((s : Int) + 1 < (vs.length : Int)) := by omega
        have hrs := hid (hr3.trans (by rw [if_neg hn1, List.append_nil]))
        go_quiet (fail)
        go_wp2
        go_roundg (l.length - (i + 1))
        case measure => omega
        case rel => exact ⟨i + 1, (p2 ++ [⟨2, (nth l u).txn, (nth l i).txn, u, i⟩]), by omega, by omega, by go_num, hI8.go ((Ext.refl _).drewN _), by simp; omega, hid (by rw [hr2.out]; exact (hrs.out.trans (by simp)).symm)⟩
      have hn2 : (s : Int) + 1 < (vs.length : Int) := by omega
      obtain ⟨v, hv, hvl⟩ := HVP.out (s + 1) hn1
      have fv : w8.cell? ⟨b3, o3 + (s + 1), none⟩ = some (.int .i64 (v : Int)) := by have := hI8.cell (by omega) (q := s + 1) (by omega); rw [hv] at this; exact this
      have fi : w8.cell? ⟨be, oe + i * 4 + 1, none⟩ = some (.int .i64 (nth l i).txn) := E1.out w8 i hX8 (by omega)
      have fv2 : w8.cell? ⟨be, oe + v * 4 + 1, none⟩ = some (.int .i64 (nth l v).txn) := E1.out w8 v hX8 (by omega)
      rw [if_pos hn1, hv, Int.toNat_natCast] at hr3
      by_cases ht2 : (nth l i).txn = (nth l v).txn
      case pos =>
        rw [← ht2] at fv2
        have hrs := hid (hr3.trans (by unfold putE; rw [if_pos ht2, List.append_nil]))
        go_quiet (fail)
        go_wp2
        go_roundg (l.length - (i + 1))
        case measure => omega
        case rel => exact ⟨i + 1, (p2 ++ [⟨2, (nth l u).txn, (nth l i).txn, u, i⟩]), by omega, by omega, by go_num, hI8.go ((Ext.refl _).drewN _), by simp; omega, hid (by rw [hr2.out]; exact (hrs.out.trans (by simp)).symm)⟩
      have hb2 : ((nth l v).txn == (nth l i).txn) = false := by simp; exact fun h => ht2 h.symm
      have hrs := hid (hr3.trans (by unfold putE; rw [if_neg ht2]))
      go_quiet (fail)
      go_wp2
      have hIa9 := hI8.go ((Ext.refl w8).drewN (nq + 1))
      obtain ⟨v9, w9, hrun9, hown9, hgrow9, _⟩ := app_edge (W := w8.drewN (nq + 1)) hIa9.out hIa9.ext.le (by first | omega | (simp; omega)) 28 ⟨3, (nth l i).txn, (nth l v).txn, i, v⟩
      replace hrun9 : (Builtin.append_ #[28, 28] 28 #[v8, .slice (some ⟨w8.heap.size, 0, none⟩) 1 1]).run Tryz.prog ((w8.drewN (nq + 1)).alloc (.cells #[.int .i64 3, .int .i64 (nth l i).txn, .int .i64 (nth l v).txn, .int .i64 i, .int .i64 v] 24)) = .ok v9 w9 := hrun9
      have hI9 := hIa9.put hgrow9 hown9
      have hX9 : Ext w w9 := hX2.trans hI9.ext
      have z9v : w9.cell? ⟨b3, o3 + (s + 1), none⟩ = some (.int .i64 (v : Int)) := by have := hI9.cell (by omega) (q := s + 1) (by omega); rw [hv] at this; exact this
      have z9i : w9.cell? ⟨be, oe + i * 4 + 1, none⟩ = some (.int .i64 (nth l i).txn) := E1.out w9 i hX9 (by omega)
      have z9v2 : w9.cell? ⟨be, oe + v * 4 + 1, none⟩ = some (.int .i64 (nth l v).txn) := E1.out w9 v hX9 (by omega)
      clear hgrow9 hown9
      have hrunb9 : (Builtin.append_ #[28, 28] 28 #[v8, .slice (some ⟨w8.heap.size, 0, none⟩) 1 1]).run Tryz.prog ((w8.drewN nq).drew.alloc (.cells #[.int .i64 3, .int .i64 (nth l i).txn, .int .i64 (nth l v).txn, .int .i64 i, .int .i64 v] 24)) = .ok v9 w9 := hrun9
      go_region
      go_wp2
      go_roundg (l.length - (i + 1))
      case measure => omega
      case rel => exact ⟨i + 1, _, by omega, by omega, by go_num, hI9, by simp; omega, hid (by rw [hr2.out]; exact (hrs.out.trans (by simp)).symm)⟩
set_option maxRecDepth 100000 in
set_option maxHeartbeats 16000000 in
theorem r10_all (w : World) (A : Option Addr) (cap : Nat) (xs : List S50) (hC : YtebjiimlcnmfpaaGreatW.PrintWords.Kd.C k50 w A xs.length xs) (hcap : xs.length ≤ cap) (hn : xs.length ≤ 300) (hk : ∀ y ∈ xs, y.f2.size ≤ 9223372036854775807) :
    Calls Tryz.prog 22 #[.slice A xs.length cap] w fun e w' => ∃ v, e = .returned v ∧ w'.ownsRow w.heap.size 24 5 v (((keysSpec (evs xs)).map toBA).flatMap (ofE (evs xs))).length ((((keysSpec (evs xs)).map toBA).flatMap (ofE (evs xs))).flatMap Go.Proofs.YtebjiimlcnmfpaaGreat.Edge.cs) ∧ Ext w w' := by
  have hX := Ext.refl w
  have HC := hid hC
  have HE := hid (evs_of hC (by omega))
  clear hC
  obtain ⟨kk, hkk⟩ := (rkeys xs hn hk).rounds
  have HV := hid (fun key => (rver xs hn key).rounds)
  have hkl : ((keysSpec (evs xs)).map toBA).length ≤ 300 := by
    have := keysSpec_len (evs xs)
    rw [evs_len] at this
    rw [List.length_map]; omega
  go_enter Tryz.func22, Tryz.ntmps22
  go_wp2_with (go_at_call 49; (with_reducible refine (cartoucheref08_Keys.calls A cap xs _ _ HC.out hcap hkk).mono ?_); rintro e w2 ⟨v2, rfl, hR2, hx2⟩)
  obtain ⟨A2, c2, rfl, hc2, hC2⟩ := YtebjiimlcnmfpaaGreatW.PrintWords.Kd.N_reads (YtebjiimlcnmfpaaGreatW.PrintWords.Kd.R_N hR2)
  have hK : Sl kStr w2 A2 ((keysSpec (evs xs)).map toBA).length (((keysSpec (evs xs)).map toBA).map fun x => x) := sl_of YtebjiimlcnmfpaaGreatW.PrintWords.Kd.string (fun x => [.string x]) (fun h => h) kStr (fun x => x) rfl (by decide) (fun _ _ => rfl) hC2 (by omega)
  rw [List.map_id'] at hK
  have hX2 : Ext w w2 := hx2
  have hll := evs_len xs
  generalize hks : (keysSpec (evs xs)).map toBA = ks at *
  generalize hls : evs xs = l at *
  have HKS := hid hks
  have HLS := hid hls
  clear hR2 hC2 hkk hks
  go_loopg [3, 5] ks.length (fun n_ out kv W => Ext w2 W ∧ ∃ (k : Nat) (pre : List Go.Proofs.YtebjiimlcnmfpaaGreat.Edge), k ≤ ks.length ∧ ks.length ≤ n_ + k ∧ kv = .int .i64 k ∧ W.ownsRow w2.heap.size 24 5 out pre.length (pre.flatMap Go.Proofs.YtebjiimlcnmfpaaGreat.Edge.cs) ∧ pre.length ≤ k * 3000 ∧ Hid (pre = (ks.take k).flatMap (ofE l)))
  case atStart => exact ⟨Ext.refl _, 0, [], by omega, by omega, rfl, World.ownsRow_nil _ _ _ _, by simp, hid (by simp)⟩
  case round =>
    obtain ⟨hW, k, pre, hk1, hgk, rfl, hown, hpl, hr⟩ := hrel
    by_cases hlt : k < ks.length
    case neg =>
      have hpre : pre = ks.flatMap (ofE l) := by rw [hr.out, List.take_of_length_le (by omega)]
      go_wp2
      go_ret
      refine ⟨_, rfl, ?_, hX2.trans hW⟩
      rw [HLS.out, HKS.out, ← hpre]
      exact own_base hown hX2.le
    obtain ⟨b2, o2, rfl, s0⟩ := strs_opn hK (by omega)
    obtain ⟨key, hkey⟩ : ∃ key, knth ks k = key := ⟨_, rfl⟩
    have x0 := s0 wr k hW hlt
    rw [hkey] at x0
    obtain ⟨kv, hkv⟩ := HV.out key
    have hXr : Ext w wr := hX2.trans hW
    have HCr := hid (YtebjiimlcnmfpaaGreatW.PrintWords.Kd.C_below HC.out hXr)
    go_wp2_with (go_at_call 50; (with_reducible refine (cartoucheref08_Versions.calls kv _ cap xs key (versions l key) _ HCr.out hcap hkv).mono ?_); rintro e w4 ⟨v4, rfl, hR4, hx4⟩)
    have hvs4 := own_of_R hR4
    obtain ⟨vs, hvs⟩ : ∃ vs, versions l key = vs := ⟨_, rfl⟩
    have HVP := hid (fun q => @vers_place l key q)
    have hst : Hid ((ks.take (k + 1)).flatMap (ofE l) = (ks.take k).flatMap (ofE l) ++ ((List.range (vs.length - 1)).flatMap (verE l vs) ++ (List.range l.length).flatMap (readE l key vs))) := hid (by
      rw [List.take_succ_eq_append_getElem hlt, List.flatMap_append, show ks[k] = key by rw [← hkey]; unfold knth; rw [List.getD_eq_getElem?_getD, List.getElem?_eq_getElem hlt]; rfl]
      simp [ofE, hvs])
    rw [hvs] at hvs4 HVP
    obtain ⟨A3, c3, rfl⟩ := YtebjiimlcnmfpaaGreatW.PrintWords.own_slice hvs4
    have hvl : vs.length ≤ 300 := by
      have := List.length_filterMap_le (verAt l key) (List.range l.length)
      rw [List.length_range] at this
      have e : versions l key = (List.range l.length).filterMap (verAt l key) := rfl
      rw [← e, hvs] at this
      omega
    have hI4 : AInv w2 u3 pre (.slice A3 vs.length c3) vs w4 := ⟨hW.trans hx4, own_ext hown hW.le hx4, own_base hvs4 hW.le⟩
    have HS0 := hid s0
    clear hR4 hvs4 hown hvs s0
    go_loopg [3, 7] vs.length (fun n_ out qv W => ∃ (q : Nat) (p1 : List Go.Proofs.YtebjiimlcnmfpaaGreat.Edge), (q ≤ vs.length - 1) ∧ vs.length ≤ n_ + q ∧ qv = .int .i64 q ∧ AInv w2 out p1 (.slice A3 vs.length c3) vs W ∧ p1.length ≤ k * 3000 + q ∧ Hid (p1 = pre ++ (List.range q).flatMap (verE l vs)))
    case atStart => exact ⟨0, pre, by omega, by omega, rfl, hI4, by omega, hid (by simp)⟩
    case round =>
      obtain ⟨q, p1, hq1, hgq, rfl, hI, hpl1, hr1⟩ := hrel
      by_cases hlt1 : q + 1 < vs.length
      case neg =>
        have hp1 : Hid (p1 = pre ++ (List.range (vs.length - 1)).flatMap (verE l vs)) := hid (by rw [hr1.out, show q = vs.length - 1 by omega])
        have hpl2 : p1.length ≤ k * 3000 + 300 := by omega
        go_wp2
        clear hr1 hpl1 hlt1 hq1
        refine q4_mono ?_
        refine r10_iloop hcap hn hX2 HC HE hls hll hkl HS0 hlt hkey HVP hvl hpl2 hI ?_
        intro u3 u8 u9 u10 u11 u81 u82 u83 u84 u85 u86 u87 u88 u89 u90 u91 u92 u93 u94 u95 u96 u97 u98 u99 u100 u101 u102 u103 u104 u105 u106 u107 u108 u109 u110 u111 u112 u113 u114 u115 u116 u117 u118 u119 u120 u121 u122 u123 u124 u125 u126 u127 u128 u129 u130 u131 u132 u133 u134 u135 u136 u137 u138 u139 u140 u141 u142 u143 u144 u145 u146 u147 u148 u149 u150 u151 u152 u153 u154 u155 u156 u157 u158 u159 u160 u161 u162 u163 u164 u165 u166 u167 u168 u169 u170 u171 u172 u173 u174 u175 u176 u177 u178 u179 u180 u181 u182 u183 u184 u185 u186 u187 u188 u189 u190 u191 u192 u193 u194 u195 u196 u197 u198 u199 u200 u201 u202 u203 u204 u205 u206 u207 u208 u209 u210 u211 u212 u213 u214 u215 u216 u217 u218 u219 u220 u221 W p2 hI2 hpl3 hr2
        go_wp2
        go_roundg (ks.length - (k + 1))
        case measure => omega
        case rel => exact ⟨hI2.ext, k + 1, p2, by omega, by omega, by go_num, hI2.out, by omega, hid (by rw [hst.out, ← hr.out, hr2.out, hp1.out, List.append_assoc])⟩
      obtain ⟨u0, hu0, hl0⟩ := HVP.out q (by omega)
      obtain ⟨u1, hu1, hl1⟩ := HVP.out (q + 1) hlt1
      obtain ⟨b3, o3, rfl, -⟩ := (nums_of_own (vs := vs) hI.vs (by omega)).2.opn (by omega)
      obtain ⟨be, oe, rfl, e0, e1, e2, e3⟩ := HE.out.opn (by omega)
      have x0 := hI.cell (by omega) (q := q) (by omega)
      have x1 := hI.cell (by omega) (q := q + 1) hlt1
      rw [hu0] at x0
      rw [hu1] at x1
      have hXq : Ext w wr := hX2.trans hI.ext
      have y0 := e1 wr u0 hXq (by omega)
      have y1 := e1 wr u1 hXq (by omega)
      have hst1 : Hid ((List.range (q + 1)).flatMap (verE l vs) = (List.range q).flatMap (verE l vs) ++ putE l 1 u0 u1) := hid (by
        rw [List.range_succ, List.flatMap_append]
        simp [verE, hu0, hu1])
      by_cases ht : (nth l u0).txn = (nth l u1).txn
      · rw [ht] at y0
        have hp : Hid ((List.range (q + 1)).flatMap (verE l vs) = (List.range q).flatMap (verE l vs)) := hid (by rw [hst1.out]; unfold putE; rw [if_pos ht, List.append_nil])
        clear e0 e1 e2 e3
        go_wp2
        go_quiet (fail)
        go_wp2
        go_roundg (vs.length - (q + 1))
        case measure => omega
        case rel => exact ⟨q + 1, p1, by omega, by omega, by go_num, hI.go ((Ext.refl _).drewN _), by omega, hid (by rw [hp.out]; exact hr1.out)⟩
      · have hbt : ((nth l u0).txn == (nth l u1).txn) = false := by simp [ht]
        have hp : Hid ((List.range (q + 1)).flatMap (verE l vs) = (List.range q).flatMap (verE l vs) ++ [⟨1, (nth l u0).txn, (nth l u1).txn, u0, u1⟩]) := hid (by rw [hst1.out]; unfold putE; rw [if_neg ht])
        have E1 := hid e1
        clear e0 e1 e2 e3
        go_wp2
        go_quiet (fail)
        go_wp2
        have hIa := hI.go ((Ext.refl wr).drewN (nq + 1))
        obtain ⟨v', w5, hrun, hown5, hgrow, _⟩ := app_edge (W := wr.drewN (nq + 1)) hIa.out hIa.ext.le (by omega) 28 ⟨1, (nth l u0).txn, (nth l u1).txn, u0, u1⟩
        replace hrun : (Builtin.append_ #[28, 28] 28 #[u3, .slice (some ⟨wr.heap.size, 0, none⟩) 1 1]).run Tryz.prog ((wr.drewN (nq + 1)).alloc (.cells #[.int .i64 1, .int .i64 (nth l u0).txn, .int .i64 (nth l u1).txn, .int .i64 u0, .int .i64 u1] 24)) = .ok v' w5 := hrun
        have hI5 := hIa.put hgrow hown5
        have hX5 : Ext w w5 := hX2.trans hI5.ext
        have z0 : w5.cell? ⟨b3, o3 + q, none⟩ = some (.int .i64 (u0 : Int)) := by have := hI5.cell (by omega) (q := q) (by omega); rwa [hu0] at this
        have z1 : w5.cell? ⟨b3, o3 + (q + 1), none⟩ = some (.int .i64 (u1 : Int)) := by have := hI5.cell (by omega) (q := (q + 1)) (by omega); rwa [hu1] at this
        have z2 : w5.cell? ⟨be, oe + u0 * 4 + 1, none⟩ = some (.int .i64 (nth l u0).txn) := E1.out w5 u0 hX5 (by omega)
        have z3 : w5.cell? ⟨be, oe + u1 * 4 + 1, none⟩ = some (.int .i64 (nth l u1).txn) := E1.out w5 u1 hX5 (by omega)
        clear hgrow hown5
        have hrun2 : (Builtin.append_ #[28, 28] 28 #[u3, .slice (some ⟨wr.heap.size, 0, none⟩) 1 1]).run Tryz.prog ((wr.drewN nq).drew.alloc (.cells #[.int .i64 1, .int .i64 (nth l u0).txn, .int .i64 (nth l u1).txn, .int .i64 u0, .int .i64 u1] 24)) = .ok v' w5 := hrun
        go_region
        go_wp2
        go_roundg (vs.length - (q + 1))
        case measure => omega
        case rel => exact ⟨q + 1, _, by omega, by omega, by go_num, hI5, by simp; omega, hid (by rw [hp.out, hr1.out, List.append_assoc])⟩
def cartoucheref10_All.f (l0 : List (S50)) : Option ((List (S24))) := if l0.length ≤ 300 ∧ ∀ y ∈ l0, y.f2.size ≤ 9223372036854775807 then some (allE l0) else none
theorem cartoucheref10_All.calls (A0 : Option Addr) (c0 : Nat) (l0 : List (S50)) (r : List (S24)) (w : World) (hr0 : YtebjiimlcnmfpaaGreatW.PrintWords.Kd.C k50 w A0 l0.length l0) (hc0 : l0.length ≤ c0) (h : cartoucheref10_All.f l0 = some r) :
    Calls Tryz.prog 22 #[.slice A0 l0.length c0] w fun e w' => ∃ v0_ : Value, e = .returned (v0_) ∧ YtebjiimlcnmfpaaGreatW.PrintWords.Kd.R k24 24 w' w.heap.size (fun _ => True) v0_ r ∧ Below w.heap.size w w' := by
  unfold cartoucheref10_All.f at h
  split at h
  · rename_i hn
    injection h with h
    refine (r10_all w A0 c0 l0 hr0 hc0 hn.1 hn.2).mono fun e w' ⟨v, he, ho, hx⟩ => ⟨v, he, ?_, hx⟩
    have e1 : allE l0 = (((keysSpec (evs l0)).map toBA).flatMap (ofE (evs l0))).map ofEdge := by
      unfold allE
      rw [List.map_flatMap]
    rw [← h, e1]
    exact r_of k24 24 Go.Proofs.YtebjiimlcnmfpaaGreat.Edge.cs ofEdge (fun w base ok y => k24_mkM w base ok (ofEdge y)) (fun _ => rfl) ho
  · cases h
end
end Go.Proofs.YtebjiimlcnmfpaaGreatPr
end
end
