/-
  check.Ahead's parts: edges of steps, values sorted, places
-/
import Derived.RangeFuncBox
import Derived.RangeFuncLeaves
import Derived.OwnWalkIn
import Derived.TacticsInMore
import Derived.LoopNIn
import Derived.LoopIn
import Derived.Maps.AppendAt
import Derived.Sort.OwnSorted
import Derived.Test.YtebjiimlcnmfpaaGreatA20
import Derived.Test.YtebjiimlcnmfpaaGreatA21
/-! The program's ring.Forward. -/
set_option linter.unusedVariables false
set_option linter.unusedSimpArgs false
namespace Go.Proofs.YtebjiimlcnmfpaaGreat
section
section
section
open Go Go.RowKit Go.Proofs Go.Shelf Go.Maps
attribute [local go_sem] Ext.alloc Ext.alloc2 Ext.alloc3 Ext.alloc4 Ext.drewN_alloc Ext.drewN_alloc2 Ext.drew_alloc Ext.drew Ext.drewN toList_beq

def placeF (o : List Int) (y : Int) : Option Value := if 0 ≤ Rg.plc o y 0 then some (.int .i64 (Rg.plc o y 0)) else none
theorem placeF_yes {o : List Int} {y : Int} (h : 0 ≤ Rg.plc o y 0) : (placeF o y).getD (.int .i64 0) = .int .i64 (Rg.plc o y 0) ∧ (placeF o y).isSome = true := by unfold placeF; rw [if_pos h]; exact ⟨rfl, rfl⟩
def backward (o : List Int) (x : Stp) : Bool := decide (0 ≤ Rg.plc o x.fr 0) && (decide (0 ≤ Rg.plc o x.to_ 0) && decide (Rg.plc o x.to_ 0 ≤ Rg.plc o x.fr 0))
theorem all_not {α : Type} (p : α → Bool) : ∀ l : List α, (l.all fun s => !p s) = !l.any p
  | [] => rfl
  | x :: r => by rw [List.all_cons, List.any_cons, all_not p r, Bool.not_or]
theorem plc_snoc (y x : Int) : ∀ (o : List Int) (i : Int), Rg.plc (o ++ [x]) y i = if y ∈ o then Rg.plc o y i else if x = y then i + o.length else -1
  | [], i => by simp [Rg.plc]
  | z :: r, i => by
    rw [List.cons_append, Rg.plc, Rg.plc]
    by_cases h : z = y
    · simp [h]
    · rw [if_neg h, if_neg h, plc_snoc y x r (i + 1)]
      have hiff : y ∈ z :: r ↔ y ∈ r := by simp [Ne.symm h]
      by_cases hm : y ∈ r
      · rw [if_pos hm, if_pos (hiff.2 hm)]
      · rw [if_neg hm, if_neg (fun e => hm (hiff.1 e))]
        split
        · simp; omega
        · rfl
theorem placeF_snoc {o : List Int} {x : Int} (hx : x ∉ o) (y : Int) : upd (placeF o) x (.int .i64 (o.length : Int)) y = placeF (o ++ [x]) y := by
  have e1 : Rg.plc (o ++ [x]) y 0 = if y ∈ o then Rg.plc o y 0 else if x = y then 0 + o.length else -1 := plc_snoc y x o 0
  unfold upd
  by_cases h : y = x
  · subst h
    rw [if_pos rfl]
    unfold placeF
    rw [if_neg hx, if_pos rfl] at e1
    rw [e1, if_pos (by omega)]
    simp
  · rw [if_neg h]
    unfold placeF
    by_cases hm : y ∈ o
    · rw [if_pos hm] at e1
      rw [e1]
    · rw [if_neg hm, if_neg (fun e => h e.symm)] at e1
      rw [e1]
      have : ¬ 0 ≤ Rg.plc o y 0 := by
        rcases Rg.plc_spec y o 0 with ⟨_, e⟩ | ⟨e, _⟩
        · have e' : Rg.plc o y 0 = -1 := e
          omega
        · exact absurd e hm
      rw [if_neg this, if_neg (by omega)]
theorem plc_mem {o : List Int} {y : Int} : 0 ≤ Rg.plc o y 0 ↔ y ∈ o := by
  rcases Rg.plc_spec y o 0 with ⟨h, e⟩ | ⟨h, e⟩
  · have e' : Rg.plc o y 0 = -1 := e
    constructor
    · intro h'; omega
    · intro h'; exact absurd h' h
  · have e' : Rg.plc o y 0 = ((0 + o.idxOf y : Nat) : Int) := e
    constructor
    · intro _; exact h
    · intro _; omega
theorem take_snoc' {l : List Int} {k : Nat} (h : k < l.length) : l.take (k + 1) = l.take k ++ [inth l k] := by
  rw [List.take_succ_eq_append_getElem h]
  simp [inth, List.getD_eq_getElem?_getD, h]

end
end
end
end Go.Proofs.YtebjiimlcnmfpaaGreat

/-! slices.Equal at numbers and at edges. -/
namespace Go.Proofs.YtebjiimlcnmfpaaGreat
section
section
open Go Go.RowKit Go.Proofs Go.Shelf
set_option linter.unusedSimpArgs false
set_option linter.unusedVariables false
attribute [local go_sem] Ext.alloc Ext.alloc2 Ext.alloc3 Ext.alloc4 Ext.drewN_alloc Ext.drewN_alloc2 Ext.drew_alloc Ext.drew Ext.drewN toList_beq

theorem take_eq_step' {α : Type} {a b : List α} {z : α} {k : Nat} (h : a.take k = b.take k) (ha : k < a.length) (hb : k < b.length) (he : a.getD k z = b.getD k z) : a.take (k + 1) = b.take (k + 1) := by
  rw [List.take_succ_eq_append_getElem ha, List.take_succ_eq_append_getElem hb, h]
  simp only [List.getD_eq_getElem?_getD, List.getElem?_eq_getElem ha, List.getElem?_eq_getElem hb, Option.getD_some] at he
  rw [he]
set_option maxRecDepth 100000 in
set_option maxHeartbeats 2000000 in
theorem eq_ints (w : World) (A B : Option Addr) (n m ca cb : Nat) (a b : List Int) (hA : Nums w A n a) (hB : Nums w B m b) :
    Calls Tryz.prog 76 #[.slice A n ca, .slice B m cb] w fun e w' => e = .returned (.bool (decide (a = b))) ∧ Ext w w' := by
  have hX := Ext.refl w
  have hbig := hA.big
  have hla := hid (Sl.len hA)
  have hlb := hid (Sl.len hB)
  by_cases hnm : n = m
  · subst hnm
    go_enter Tryz.func76, Tryz.ntmps76
    go_wp2
    go_loopw [13] (fun i W => Ext w W ∧ ∃ (k : Nat), k ≤ n ∧ i = .int .i64 k ∧ Hid (a.take k = b.take k)) (fun i _ => n - (RowKit.intOf i).toNat)
    case atStart => exact ⟨hX, 0, by omega, rfl, hid (by simp)⟩
    case round =>
      obtain ⟨hW, k, hk1, rfl, hr⟩ := hrel
      by_cases hlt : k < n
      · obtain ⟨b1, o1, rfl, h0⟩ := Nums.opn hA (by omega)
        obtain ⟨b2, o2, rfl, g0⟩ := Nums.opn hB (by omega)
        have x0 := h0 wr k hW hlt
        have y0 := g0 wr k hW hlt
        clear h0 g0
        by_cases he : inth a k = inth b k
        · have HE := hid he
          rw [he] at x0
          clear he
          go_wp2
          go_quiet (fail)
          go_wp2
          exact ⟨⟨hW.drewN _, k + 1, by omega, by go_num, hid (take_eq_step' (z := 0) hr.out (by rw [hla.out]; exact hlt) (by rw [hlb.out]; exact hlt) HE.out)⟩, by simp [RowKit.intOf]; omega⟩
        · have hne : a ≠ b := fun e => he (by rw [e])
          have HN := hid hne
          have d0 : (inth a k == inth b k) = false := beq_eq_false_iff_ne.2 he
          clear he hne
          go_wp2
          go_quiet (fail)
          go_wp2
          go_ret
          exact ⟨ret_bool (by simp [HN.out]), hW.drewN _⟩
      · go_wp2
        go_ret
        refine ⟨ret_bool ?_, hW⟩
        have := hr.out
        rw [List.take_of_length_le (by rw [hla.out]; omega), List.take_of_length_le (by rw [hlb.out]; omega)] at this
        simp [this]
  · have hne : a ≠ b := fun e => hnm (by rw [← hla.out, ← hlb.out, e])
    have HN := hid hne
    have hnm2 : ((n : Int) == (m : Int)) = false := by simp; omega
    clear hne
    go_enter Tryz.func76, Tryz.ntmps76
    go_wp2
    go_ret
    exact ⟨ret_bool (by simp [HN.out]), hX⟩
end
end
end Go.Proofs.YtebjiimlcnmfpaaGreat

/-! slices.Sorted(slices.Values(s)) at this program, at numbers. -/
namespace Go.Proofs.YtebjiimlcnmfpaaGreat
section
section
open Go Go.RowKit Go.Proofs Go.Shelf Go.Sort
set_option linter.unusedSimpArgs false
set_option linter.unusedVariables false
attribute [local go_sem] Oper.semAt_some

theorem infoIntV : (Tryz.prog.info? 3).map (fun i => (i.zero, i.size, i.bytes)) = some (some (.int .i64 0), 1, 8) := by kernel_rfl
/-- What has come when k rounds are over. -/
def upto (zs : List Int) (k : Nat) : List Int := (List.range k).map (inth zs)
theorem upto_succ (zs : List Int) (k : Nat) : upto zs (k + 1) = upto zs k ++ [inth zs k] := by simp [upto, List.range_succ]
theorem upto_length (zs : List Int) (k : Nat) : (upto zs k).length = k := by simp [upto]
theorem upto_all (zs : List Int) : upto zs zs.length = zs := by
  apply List.ext_getElem
  · simp [upto]
  · intro i h1 h2
    simp [upto, inth, List.getD_eq_getElem?_getD, h2]
theorem upto_take (zs : List Int) {k : Nat} (hk : k ≤ zs.length) : upto zs k = zs.take k := by
  apply List.ext_getElem
  · simp [upto, hk]
  · intro i h1 h2
    have : i < zs.length := by simp [upto] at h1; omega
    simp [upto, inth, List.getD_eq_getElem?_getD, this]
/-- The slice value sv holds the numbers zs, in a block below n₀; or it has none. -/
def Below.ints (n₀ : Nat) (W : World) (sv : Value) (zs : List Int) : Prop :=
  (∃ p cap, sv = .slice p 0 cap ∧ zs = []) ∨ ∃ b off cap, sv = .slice (some ⟨b, off, none⟩) zs.length cap ∧ b < n₀ ∧ ∀ j, j < zs.length → W.cell? ⟨b, off + j, none⟩ = some (.int .i64 (inth zs j))
theorem Below.ints_on {n₀ : Nat} {A B : World} (h : Below n₀ A B) {sv : Value} {zs : List Int} : Below.ints n₀ A sv zs → Below.ints n₀ B sv zs
  | .inl e => .inl e
  | .inr ⟨b, off, cap, e, hb, hc⟩ => .inr ⟨b, off, cap, e, hb, fun j hj => (h.cell (p := ⟨b, off + j, none⟩) hb).trans (hc j hj)⟩

set_option maxRecDepth 100000 in
set_option maxHeartbeats 2000000 in
theorem vals1_in (n : Nat) (hn : 1 ≤ n) (l Bs n₀ b off len cap : Nat) (zs : List Int) (hreach : len * 8 ≤ 140737488351232) (hb : b < n₀) (J Jx : List Int → World → Prop)
    (hY : ∀ pre x W, J pre W → pre.length < len → YieldAt Fence.wide (n - 1) Tryz.prog l #[.int .i64 x] W fun e W' =>
      (e = .returned (.bool true) ∧ J (pre ++ [x]) W' ∧ Below n₀ W W') ∨ (e = .returned (.bool false) ∧ Jx (pre ++ [x]) W'))
    (W : World) (hBs : W.cell? ⟨Bs, 0, none⟩ = some (.slice (some ⟨b, off, none⟩) len cap)) (hc : ∀ j, j < len → W.cell? ⟨b, off + j, none⟩ = some (.int .i64 (inth zs j))) (h0 : J [] W) :
    CallsIn Fence.wide n Tryz.prog 110 #[.func (.yield l) #[] #[], .pointer (some ⟨Bs, 0, none⟩)] W fun e W' => (∃ v, e = .returned v) ∧
      ((∃ ys, ys = upto zs len ∧ J ys W') ∨ (∃ pre, (∃ k, k ≤ len ∧ pre = upto zs k) ∧ Jx pre W')) := by
  refine callsIn_of_wp Tryz.func110 rfl trivial ?_ rfl
  simp only [Tryz.ntmps110, List.size_toArray, List.length_cons, List.length_nil, Nat.reduceAdd, Nat.reduceSub, Array.replicate_succ, Array.replicate_zero, List.push_toArray, List.append_toArray, List.nil_append, List.cons_append]
  gi_wp2
  gi_loopw [7] (fun i wr => ∃ k : Nat, k ≤ len ∧ i = .int .i64 k ∧ J (upto zs k) wr ∧ Below n₀ W wr)
    (fun i _ => len - (intOf i).toNat)
  case atStart => exact ⟨0, Nat.zero_le _, rfl, h0, Below.refl _ _⟩
  case round =>
    obtain ⟨k, hk, rfl, hJs, hnx⟩ := hrel
    have hcx : k < len → wr.cell? ⟨b, off + k, none⟩ = some (.int .i64 (inth zs k)) := fun h => (hnx.cell (p := ⟨b, off + k, none⟩) hb).trans (hc k h)
    by_cases hlt : k < len
    · obtain ⟨fn, tmps, assign, body, hy, hR⟩ := hY _ (inth zs k) wr hJs (by rw [upto_length]; exact hlt)
      have hcx' := hcx hlt
      gi_wp2
      refine hR.mono ?_
      rintro e W3 (⟨rfl, hJ3, hk3⟩ | ⟨rfl, hJx3⟩)
      · gi_wp2
        go_roundw
        case rel => exact ⟨k + 1, by omega, by simp, by rw [upto_succ]; exact hJ3, hnx.trans hk3⟩
        case measure => simp [intOf]; omega
      · gi_wp2
        refine bodyPost_ret (results_none rfl _ _ _) rfl ?_
        exact ⟨⟨_, rfl⟩, .inr ⟨_, ⟨k + 1, by omega, (upto_succ _ _).symm⟩, hJx3⟩⟩
    · obtain rfl : k = len := by omega
      gi_wp2
      go_end0
      exact ⟨⟨_, rfl⟩, .inl ⟨_, rfl, hJs⟩⟩

set_option maxRecDepth 100000 in
set_option maxHeartbeats 1000000 in
theorem vals1_nil_in (n : Nat) (l Bs : Nat) (p : Option Addr) (cap : Nat) (J : List Int → World → Prop) (W : World) (hBs : W.cell? ⟨Bs, 0, none⟩ = some (.slice p 0 cap)) (h0 : J [] W) :
    CallsIn Fence.wide n Tryz.prog 110 #[.func (.yield l) #[] #[], .pointer (some ⟨Bs, 0, none⟩)] W fun e W' => (∃ v, e = .returned v) ∧ J [] W' := by
  refine callsIn_of_wp Tryz.func110 rfl trivial ?_ rfl
  simp only [Tryz.ntmps110, List.size_toArray, List.length_cons, List.length_nil, Nat.reduceAdd, Nat.reduceSub, Array.replicate_succ, Array.replicate_zero, List.push_toArray, List.append_toArray, List.nil_append, List.cons_append]
  gi_wp2
  gi_loopw [7] (fun i wr => i = .int .i64 0 ∧ J [] wr) (fun _ _ => 0)
  case atStart => exact ⟨rfl, h0⟩
  case round =>
    obtain ⟨rfl, hJs⟩ := hrel
    gi_wp2
    go_end0
    exact ⟨⟨_, rfl⟩, hJs⟩

set_option maxHeartbeats 1000000 in
theorem vals_call (a : Option Addr) (len cap : Nat) (w : World) :
    Calls Tryz.prog 75 #[.slice a len cap] w fun e w' => e = .returned (.func (.func 110) #[] #[.pointer (some ⟨w.heap.size, 0, none⟩)]) ∧ w' = w.alloc (.cells #[.slice a len cap] 31) := by
  go_enter Tryz.func75, Tryz.ntmps75
  go_wp2
  go_ret
  exact ⟨rfl, rfl⟩

theorem vals_stops (n : Nat) (hn : 1 ≤ n) (Bs n₀ : Nat) (sv : Value) (zs : List Int) (hreach : zs.length * 8 ≤ 140737488351232) (w : World) (hBs : Bs < w.heap.size) (hn₀ : n₀ ≤ w.heap.size)
    (hc : w.cell? ⟨Bs, 0, none⟩ = some sv) (hI : Below.ints n₀ w sv zs) :
    SeqStopsK Fence.wide n Tryz.prog 110 #[.pointer (some ⟨Bs, 0, none⟩)] (fun x : Int => #[Value.int .i64 x]) (Below n₀) (fun ys => ys = zs) (fun pre => pre <+: zs) zs.length w := fun l J Jx W hW _ _ hY h0 => by
  have hc' := (hW.cell (p := ⟨Bs, 0, none⟩) hBs).trans hc
  rcases Below.ints_on (hW.mono hn₀) hI with ⟨p, cap, rfl, rfl⟩ | ⟨b, off, cap, rfl, hb, hcs⟩
  · exact (vals1_nil_in n l Bs p cap J W hc' h0).mono fun e W' ⟨he, hj⟩ => ⟨he, .inl ⟨_, rfl, hj⟩⟩
  · refine (vals1_in n hn l Bs n₀ b off zs.length cap zs hreach hb J Jx hY W hc' hcs h0).mono ?_
    rintro e W' ⟨he, ⟨ys, rfl, hj⟩ | ⟨pre, ⟨k, hk, rfl⟩, hj⟩⟩
    · exact ⟨he, .inl ⟨_, upto_all zs, hj⟩⟩
    · exact ⟨he, .inr ⟨_, by rw [upto_take zs hk]; exact List.take_prefix _ _, hj⟩⟩

set_option maxRecDepth 100000 in
set_option maxHeartbeats 2000000 in
theorem appSeq_call (Bs : Nat) (sv : Value) (zs : List Int) (hlen : zs.length * 8 ≤ 140737488351232) (w : World) (hBs : Bs < w.heap.size) (hc : w.cell? ⟨Bs, 0, none⟩ = some sv) (hI : Below.ints w.heap.size w sv zs) :
    Calls Tryz.prog 148 #[.slice none 0 0, .func (.func 110) #[] #[.pointer (some ⟨Bs, 0, none⟩)]] w fun e W' => ∃ v, e = .returned v ∧ W'.ownsRow w.heap.size 3 1 v zs.length (zs.map encZ) ∧ (v = .slice none 0 0 ↔ zs = []) ∧ Below w.heap.size w W' := by
  refine (callsIn_wide (n := 5)).1 ?_
  have h1 : 1 ≤ 5 := by omega
  obtain ⟨i0, hi, hz0, hz1, hz2⟩ := info_parts infoIntV
  refine callsIn_of_wp_marks Tryz.func148 rfl trivial ?_ rfl
  simp only [Tryz.ntmps148, List.size_toArray, List.length_cons, List.length_nil, Nat.reduceAdd, Nat.reduceSub, Array.replicate_succ, Array.replicate_zero, List.push_toArray, List.append_toArray, List.nil_append, List.cons_append]
  gi_wp2
  have bO := Boxed.new w 31 (.slice none 0 0)
  have hB0 : Below w.heap.size w (w.alloc (.cells #[.slice none 0 0] 31)) := (Below.refl _ w).alloc (Nat.le_refl _) _
  refine wpIn_rangeFunc_ownG rfl h1 (gf := 110) (lb := #[.pointer (some ⟨Bs, 0, none⟩)]) rfl trivial (enters_of Tryz.func110 (by kernel_rfl) rfl)
    (vals_stops 4 (by omega) Bs w.heap.size sv zs (by omega) w hBs (Nat.le_refl _) hc hI) belowK_t (belowK_b (by simp)) hB0 (fun _ => rfl)
    (fun pre W => (∃ v, Boxed W w.heap.size 31 v ∧ W.ownsRow w.heap.size 3 1 v pre.length (pre.map encZ) ∧ (v = .slice none 0 0 ↔ pre = [])) ∧ Below w.heap.size w W)
    (fun _ _ _ => False)
    (OwnFrom.and (Own.from (holdsRow_own w.heap.size w.heap.size 31 3 1 (fun pre => pre.length) (fun pre => pre.map encZ) (fun pre v => v = .slice none 0 0 ↔ pre = [])) _) (ownFrom_below (Nat.le_refl _) (by simp)))
    (fun _ _ _ _ _ hs _ _ => hs)
    ⟨⟨_, bO, World.ownsRow_nil _ _ _ _, by simp⟩, hB0⟩
    (fun x => { tmps := #[.slice none 0 0, .func (.func 110) #[] #[.pointer (some ⟨Bs, 0, none⟩)], .pointer (some ⟨w.heap.size, 0, none⟩), undef, .slice none 0 0, .int .i64 x, .func (.func 110) #[] #[.pointer (some ⟨Bs, 0, none⟩)], .int .i64 x, undef, undef, undef, undef, undef], defers := [] }) ?assign ?body ?done ?stop
  case assign =>
    intro l x W K hK
    gi_wp2
    exact hK
  case body =>
    rintro l pre x W ⟨⟨v, hv, hrow, hnil⟩, hB⟩ hlt
    have hc := hv.cell
    gi_wp2_with (gi_at_builtin; refine wpListIn_append_own _ rfl _ _ 31 rfl w.heap.size 3 i0 (.int .i64 0) 1 8 Tryz.underlying31 hi hz0 hz1 hz2 rfl (by decide) _ _ _ rfl (hrow.alloc _) ⟨W.heap.size, 0, none⟩ 1 1 [.int .i64 x] rfl rfl (cell_one_new _ _ _) (by simp [Value.oneCell']) (by simp only [maxLen]; omega) (by omega) (by have := hB.size; simp; omega) ?_; intro v' w1 hown' hgrow _; obtain ⟨g', cap', rfl⟩ := ownsRow_succ hown'; obtain ⟨hv1, hv2, hr2, hk2, hb2⟩ := hv.appended (by decide) hrow hB.size (Nat.le_refl _) hown' hgrow; have hc1 := hv1.cell; have hf1 := hv1.frozen)
    exact ⟨hk2.from _, hb2, ⟨_, hv2, by simpa [encZ] using hr2, by simp⟩, hB.trans hb2⟩
  case done =>
    rintro D ys W hD rfl ⟨⟨v, hv, hrow, hnil⟩, hB⟩ hK
    have hc := hv.cell
    gi_wp2
    refine ⟨by simp, .inl ⟨_, _, rfl, run_takeDeferred hK, ?_⟩⟩
    exact ⟨_, results_tmp rfl _ _ _, v, rfl, ownsRow_putObj hrow _ hK rfl, hnil, hB.trans (belowK_b (w := w) (Nat.le_refl _) W D _ _ (by simp at hD; omega) hK rfl rfl)⟩
  case stop =>
    rintro D c pre W _ _ h _
    exact h.elim

set_option maxHeartbeats 1000000 in
theorem collectVals_call (Bs : Nat) (sv : Value) (zs : List Int) (hlen : zs.length * 8 ≤ 140737488351232) (w : World) (hBs : Bs < w.heap.size) (hc : w.cell? ⟨Bs, 0, none⟩ = some sv) (hI : Below.ints w.heap.size w sv zs) :
    Calls Tryz.prog 109 #[.func (.func 110) #[] #[.pointer (some ⟨Bs, 0, none⟩)]] w fun e W' => ∃ v, e = .returned v ∧ W'.ownsRow w.heap.size 3 1 v zs.length (zs.map encZ) ∧ (v = .slice none 0 0 ↔ zs = []) ∧ Below w.heap.size w W' := by
  go_enter Tryz.func109, Tryz.ntmps109
  go_wp2_with (go_at_call 148; refine (appSeq_call Bs sv zs hlen w hBs hc hI).mono ?_; rintro e W ⟨v, rfl, hrow, hnil, hb⟩)
  go_ret
  exact ⟨v, rfl, hrow, hnil, hb⟩

set_option maxRecDepth 100000 in
set_option maxHeartbeats 1000000 in
theorem sortedVals_call (Bs : Nat) (sv : Value) (zs : List Int) (hlen : zs.length * 8 ≤ 140737488351232) (w : World) (hBs : Bs < w.heap.size) (hc : w.cell? ⟨Bs, 0, none⟩ = some sv) (hI : Below.ints w.heap.size w sv zs) :
    Calls Tryz.prog 74 #[.func (.func 110) #[] #[.pointer (some ⟨Bs, 0, none⟩)]] w fun e W' => ∃ v, e = .returned v ∧ W'.ownsRow w.heap.size 3 1 v zs.length ((zs.mergeSort (fun x y => decide (x ≤ y))).map encZ) ∧ Below w.heap.size w W' := by
  go_enter Tryz.func74, Tryz.ntmps74
  go_wp2_with (go_at_call 109; refine (collectVals_call Bs sv zs hlen w hBs hc hI).mono ?_; rintro e W ⟨v, rfl, hrow, hnil, hb⟩)
  rcases hrow.2 with ⟨rfl, hz⟩ | ⟨gb, cap, cur, rfl, hbase, hgb, r1, r2, r3, r4⟩
  · have hss : zs = [] := List.eq_nil_of_length_eq_zero hz
    subst hss
    go_wp2_with (go_at_call 53; refine (callsIn_wide.1 ((sortsInt 1).2 none 0 W)).mono ?_; rintro e w' ⟨rfl, rfl⟩)
    go_ret
    exact ⟨.slice none 0 0, rfl, by simpa using hrow, hb⟩
  · have hH : Holds encZ W gb 0 zs.toArray := holds_of_block_i hgb (by simpa using r4)
    have hgl : gb < W.heap.size := (Array.getElem?_eq_some_iff.1 hgb).1
    have hsz : zs.length < 4611686018427387904 := by omega
    have cS := callsIn_wide.1 ((sortsInt 1).1 gb 0 cap zs W hH hgl hsz)
    go_wp2_with (go_at_call 53; refine cS.mono ?_; rintro e w' ⟨rfl, nn, os, rfl⟩)
    go_ret
    exact ⟨_, rfl, ownsRow_sorted_i (by simp) hbase hgb r1 r2 r3, hb.grown (grownBy_sorted_i _) hb.size (fun j hj => by cases hj; exact hbase)⟩
end
end
end Go.Proofs.YtebjiimlcnmfpaaGreat
