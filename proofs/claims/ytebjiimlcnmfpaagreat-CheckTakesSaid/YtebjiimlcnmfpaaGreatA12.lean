/-
  edges.of
-/
import Derived.Deep.RegionLaw
import Derived.Test.YtebjiimlcnmfpaaGreatA3
import Derived.Test.YtebjiimlcnmfpaaGreatA4
import Derived.Test.YtebjiimlcnmfpaaGreatWWords
import Derived.Test.YtebjiimlcnmfpaaGreatA2
/-! The program's edges.of: its closures. -/
set_option linter.unusedVariables false
set_option linter.unusedSimpArgs false
namespace Go.Proofs.YtebjiimlcnmfpaaGreat
section
section
open Go Go.RowKit Go.Proofs Go.Shelf
attribute [local go_sem] Ext.alloc Ext.alloc2 Ext.alloc3 Ext.alloc4 Ext.drewN_alloc Ext.drewN_alloc2 Ext.drew_alloc Ext.drew Ext.drewN toList_beq
attribute [-go_sem] Builtin.append_

structure Edge where
  kind : Int
  from_ : Int
  to_ : Int
  i : Int
  j : Int
deriving DecidableEq
def Edge.z : Edge := ⟨0, 0, 0, 0, 0⟩
def Edge.cs (x : Edge) : List Value := [.int .i64 x.kind, .int .i64 x.from_, .int .i64 x.to_, .int .i64 x.i, .int .i64 x.j]
theorem infoEdge : (Tryz.prog.info? 24).map (fun i => (i.zero, i.size, i.bytes)) = some (some (.agg #[.int .i64 0, .int .i64 0, .int .i64 0, .int .i64 0, .int .i64 0]), 5, 40) := by kernel_rfl

/-- All blocks but bo and the row of v are as they were. -/
structure ButRow (bo : Nat) (v : Value) (W W' : World) : Prop where
  os : W'.os = W.os
  tape : W'.tape = W.tape
  output : W'.output = W.output
  size : W.heap.size ≤ W'.heap.size
  block : ∀ g, g < W.heap.size → g ≠ bo → some g ≠ v.ownBlock → W'.heap[g]? = W.heap[g]?

set_option maxHeartbeats 1000000 in
theorem e_put0 (W : World) (b o n cap bh bo i k : Nat) (kind : Int) (l : List Ev) (hE : Evs W (some ⟨b, o, none⟩) n l) (hh : W.cell? ⟨bh, 0, none⟩ = some (.slice (some ⟨b, o, none⟩) n cap)) (hi : i < n) (hk : k < n) (hne : (nth l i).txn = (nth l k).txn) :
    Calls Tryz.prog 86 #[.int .i64 kind, .int .i64 i, .int .i64 k, .pointer (some ⟨bh, 0, none⟩), .pointer (some ⟨bo, 0, none⟩)] W fun e w' => e = .returned (.tuple #[]) ∧ ∃ q, w' = W.drewN q := by
  have hX := Ext.refl W
  have hbig := hE.big
  obtain ⟨b', o', e', h0, h1, h2, h3⟩ := hE.opn (by omega)
  cases e'
  have hti := h1 W i hX hi
  have htk := h1 W k hX hk
  rw [hne] at hti
  clear hE h0 h1 h2 h3 hne
  go_enter Tryz.func86, Tryz.ntmps86
  go_wp2
  go_quiet (fail)
  go_wp2
  go_end0
  exact ⟨rfl, _, rfl⟩

theorem put_but {W w1 : World} {bo : Nat} {t : TypeId} {v : Value} {cs : Array Value} (hg : W.grownBy w1 v.ownBlock) (h0 : Blk w1 bo t cs) (u : Value) : ButRow bo v W (w1.setCell ⟨bo, 0, none⟩ u) :=
  ⟨hg.os, hg.tape, hg.output, by have := hg.size; simpa [World.setCell] using this, fun g hlt hne hr => by
    rw [Below.heap_setCell w1 ⟨bo, 0, none⟩ u g hne]
    exact hg.block g hlt hr⟩
theorem own_not {w : World} {base bo : Nat} {e : TypeId} {sz : Nat} {v : Value} {n : Nat} {xs : List Value} (h : w.ownsRow base e sz v n xs) (hb : bo < base) : ∀ k, v.ownBlock = some k → k ≠ bo := fun k hk e => by
  have := own_block h k hk
  omega
theorem own_set {w : World} {base bo : Nat} {e : TypeId} {sz : Nat} {v : Value} {n : Nat} {xs : List Value} (h : w.ownsRow base e sz v n xs) (hb : bo < base) (j : Nat) (u : Value) : (w.setCell ⟨bo, j, none⟩ u).ownsRow base e sz v n xs :=
  YtebjiimlcnmfpaaGreatW.PrintWords.own_move h fun k hk => Below.heap_setCell w ⟨bo, j, none⟩ u k (own_not h hb k hk)

set_option maxRecDepth 100000 in
set_option maxHeartbeats 8000000 in
theorem e_put1 (W : World) (b o n cap bh bo i k base : Nat) (kind : Int) (l : List Ev) (v : Value) (pre : List Edge) (hE : Evs W (some ⟨b, o, none⟩) n l) (hh : W.cell? ⟨bh, 0, none⟩ = some (.slice (some ⟨b, o, none⟩) n cap)) (hi : i < n) (hk : k < n) (hne : (nth l i).txn ≠ (nth l k).txn)
    (ho : Blk W bo 28 #[v]) (hown : W.ownsRow base 24 5 v pre.length (pre.flatMap Edge.cs)) (hb0 : bo < base) (hb1 : base ≤ W.heap.size) (hpl : pre.length ≤ 1000000) :
    Calls Tryz.prog 86 #[.int .i64 kind, .int .i64 i, .int .i64 k, .pointer (some ⟨bh, 0, none⟩), .pointer (some ⟨bo, 0, none⟩)] W fun e w' => e = .returned (.tuple #[]) ∧ ∃ v', Blk w' bo 28 #[v'] ∧
      w'.ownsRow base 24 5 v' (pre ++ [(⟨kind, (nth l i).txn, (nth l k).txn, i, k⟩ : Edge)]).length ((pre ++ [(⟨kind, (nth l i).txn, (nth l k).txn, i, k⟩ : Edge)]).flatMap Edge.cs) ∧ ButRow bo v W w' := by
  have hX := Ext.refl W
  have hbig := hE.big
  obtain ⟨i0, hi0, hz0, hz1, hz2⟩ := info_parts infoEdge
  obtain ⟨b', o', e', h0, h1, h2, h3⟩ := hE.opn (by omega)
  cases e'
  have hti := h1 W i hX hi
  have htk := h1 W k hX hk
  obtain ⟨A0, c0, rfl⟩ := YtebjiimlcnmfpaaGreatW.PrintWords.own_slice hown
  have hov := ho.cell0
  have hb : ((nth l i).txn == (nth l k).txn) = false := beq_eq_false_iff_ne.2 hne
  have HO := hid ho
  have HW := hid hown
  have hal : ∀ (m : Nat) (ob : Obj), ((W.drewN m).alloc ob).cell? ⟨bo, 0, none⟩ = some (.slice A0 pre.length c0) := fun m ob => ((show Blk (W.drewN m) bo 28 #[.slice A0 pre.length c0] from ho).alloc ob).cell0
  have HN : Hid (some bo ≠ (Value.slice A0 pre.length c0).ownBlock) := hid (fun e => by have := own_block hown bo e.symm; omega)
  clear hE h0 h1 h2 h3 hne ho hown
  go_enter Tryz.func86, Tryz.ntmps86
  go_wp2
  go_quiet (fail)
  go_wp2
  go_region_law (refine YtebjiimlcnmfpaaGreatW.PrintWords.step_append_cells base (by rfl) (.tmp 19) (.tmp 34) 28 24 _ 5 40 rfl Tryz.underlying28 infoEdge rfl (by decide) (by decide) (.slice A0 pre.length c0) pre.length (pre.flatMap Edge.cs) [.int .i64 kind, .int .i64 (nth l i).txn, .int .i64 (nth l k).txn, .int .i64 i, .int .i64 k] (by rfl) (by rfl) rfl (by intro u hu; simp at hu; rcases hu with rfl | rfl | rfl | rfl | rfl <;> rfl) (by exact HW.out) (Below.refl _ _) (by exact hb1) (by omega) ?_; intro v1 w1 hown1 hbel1 hgrow1 hat1; obtain ⟨A1, c1, rfl⟩ := YtebjiimlcnmfpaaGreatW.PrintWords.own_slice hown1; have q0 : Blk w1 bo 28 #[.slice A0 pre.length c0] := Blk.grown (w := W) HO.out ⟨hgrow1.os, hgrow1.tape, hgrow1.output, hgrow1.size, hgrow1.block⟩ HN.out; have q1 := q0.cell0; have q2 := q0.frozen 0)
  all_goals
    go_wp2
    go_end0
    have e1 : pre.flatMap Edge.cs ++ [.int .i64 kind, .int .i64 (nth l i).txn, .int .i64 (nth l k).txn, .int .i64 i, .int .i64 k] = (pre ++ [(⟨kind, (nth l i).txn, (nth l k).txn, i, k⟩ : Edge)]).flatMap Edge.cs := by simp [Edge.cs]
    have e2 : pre.length + 1 = (pre ++ [(⟨kind, (nth l i).txn, (nth l k).txn, i, k⟩ : Edge)]).length := by simp
    refine ⟨rfl, _, q0.set0 _, ?_, put_but (W := W) ⟨hgrow1.os, hgrow1.tape, hgrow1.output, hgrow1.size, hgrow1.block⟩ q0 _⟩
    rw [← e1, ← e2]
    exact own_set hown1 hb0 _ _
end
end
end Go.Proofs.YtebjiimlcnmfpaaGreat

/-! The program's edges.of. -/
namespace Go.Proofs.YtebjiimlcnmfpaaGreat
section
section
open Go Go.RowKit Go.Proofs Go.Shelf
attribute [local go_sem] Ext.alloc Ext.alloc2 Ext.alloc3 Ext.alloc4 Ext.drewN_alloc Ext.drewN_alloc2 Ext.drew_alloc Ext.drew Ext.drewN toList_beq
attribute [-go_sem] Builtin.append_

/-- What the closure puts behind the edges. -/
def putE (l : List Ev) (kind : Int) (i k : Nat) : List Edge := if (nth l i).txn = (nth l k).txn then [] else [⟨kind, (nth l i).txn, (nth l k).txn, i, k⟩]
theorem ButRow.refl (bo : Nat) (v : Value) (W : World) (q : Nat) : ButRow bo v W (W.drewN q) := ⟨rfl, rfl, rfl, Nat.le_refl _, fun _ _ _ _ => rfl⟩
theorem e_put (W : World) (b o n cap bh bo i k base : Nat) (kind : Int) (l : List Ev) (v : Value) (pre : List Edge) (hE : Evs W (some ⟨b, o, none⟩) n l) (hh : W.cell? ⟨bh, 0, none⟩ = some (.slice (some ⟨b, o, none⟩) n cap)) (hi : i < n) (hk : k < n)
    (ho : Blk W bo 28 #[v]) (hown : W.ownsRow base 24 5 v pre.length (pre.flatMap Edge.cs)) (hb0 : bo < base) (hb1 : base ≤ W.heap.size) (hpl : pre.length ≤ 1000000) :
    Calls Tryz.prog 86 #[.int .i64 kind, .int .i64 i, .int .i64 k, .pointer (some ⟨bh, 0, none⟩), .pointer (some ⟨bo, 0, none⟩)] W fun e w' => e = .returned (.tuple #[]) ∧ ∃ v', Blk w' bo 28 #[v'] ∧
      w'.ownsRow base 24 5 v' (pre ++ putE l kind i k).length ((pre ++ putE l kind i k).flatMap Edge.cs) ∧ ButRow bo v W w' := by
  by_cases h : (nth l i).txn = (nth l k).txn
  · have e : putE l kind i k = [] := if_pos h
    rw [e, List.append_nil]
    refine (e_put0 W b o n cap bh bo i k kind l hE hh hi hk h).mono ?_
    rintro e w' ⟨rfl, q, rfl⟩
    exact ⟨rfl, v, ho, hown, ButRow.refl bo v W q⟩
  · have e : putE l kind i k = [⟨kind, (nth l i).txn, (nth l k).txn, i, k⟩] := if_neg h
    rw [e]
    exact e_put1 W b o n cap bh bo i k base kind l v pre hE hh hi hk h ho hown hb0 hb1 hpl

section
variable {W W' w : World} {bo : Nat} {v : Value}
theorem ButRow.ext (h : ButRow bo v W W') (hx : Ext w W) (hbo : w.heap.size ≤ bo) (hv : ∀ k, v.ownBlock = some k → w.heap.size ≤ k) : Ext w W' :=
  ⟨h.os.trans hx.os, h.tape.trans hx.tape, h.output.trans hx.output, Nat.le_trans hx.size h.size, fun g hg => (h.block g (Nat.lt_of_lt_of_le hg hx.size) (by omega) (fun e => by have := hv g e.symm; omega)).trans ((show Below w.heap.size w W from hx).block g hg)⟩
theorem ButRow.blk (h : ButRow bo v W W') {g : Nat} {t : TypeId} {cs : Array Value} (hb : Blk W g t cs) (h1 : g ≠ bo) (h2 : some g ≠ v.ownBlock) : Blk W' g t cs := (h.block g hb.lt h1 h2).trans hb
theorem ButRow.own (h : ButRow bo v W W') {base : Nat} {e : TypeId} {sz : Nat} {u : Value} {n : Nat} {xs : List Value} (hu : W.ownsRow base e sz u n xs) (h1 : bo < base) (h2 : u.ownBlock = none ∨ u.ownBlock ≠ v.ownBlock) : W'.ownsRow base e sz u n xs :=
  YtebjiimlcnmfpaaGreatW.PrintWords.own_move hu fun k hk => h.block k (YtebjiimlcnmfpaaGreatW.PrintWords.own_lt hu k hk) (by have := own_block hu k hk; omega) (fun e => by
    rcases h2 with h2 | h2
    · rw [h2] at hk; cases hk
    · exact h2 (hk.trans e))
end
theorem blk_ne_own {W : World} {g : Nat} {t e : TypeId} {cs : Array Value} {base : Nat} {sz : Nat} {u : Value} {n : Nat} {xs : List Value} (hb : Blk W g t cs) (hu : W.ownsRow base e sz u n xs) (hne : t ≠ e) : some g ≠ u.ownBlock := fun he => by
  obtain ⟨cells, hc⟩ := YtebjiimlcnmfpaaGreatW.PrintWords.own_typed hu g he.symm
  have hb' : W.heap[g]? = some (.cells cs t) := hb
  rw [hc] at hb'
  injection hb' with hb'
  injection hb' with _ ht
  exact hne ht.symm
theorem nums_of_own {W : World} {base : Nat} {A : Option Addr} {m c : Nat} {vs : List Int} (h : W.ownsRow base 3 1 (.slice A m c) vs.length (vs.flatMap intC)) (hb : vs.length ≤ 1000000) : m = vs.length ∧ Nums W A vs.length vs := by
  obtain ⟨A', c', e, hs⟩ := sl_of_own (l := vs) (c := intCs) (z := (0 : Int)) (hc := fun _ => rfl) h (by omega)
  cases e
  exact ⟨rfl, hs⟩
theorem vers_place {l : List Ev} {key : ByteArray} {q : Nat} (hq : q < (versions l key).length) : ∃ u : Nat, inth (versions l key) q = u ∧ u < l.length := by
  have hm : inth (versions l key) q ∈ versions l key := by
    unfold inth
    rw [List.getD_eq_getElem?_getD, List.getElem?_eq_getElem hq]
    exact List.getElem_mem _
  obtain ⟨i, _, hi⟩ := List.mem_filterMap.1 hm
  unfold verAt at hi
  split at hi
  · rename_i hc
    injection hi with hi
    rw [← hi]
    rcases last_nth (wroteBy (nth l i).txn key) l (i : Int).toNat with ⟨e, _⟩ | ⟨u, h1, _, h2, _⟩
    · exfalso
      unfold lastOf at hc
      omega
    · exact ⟨u, h2, h1⟩
  · cases hi

/-- What the walk of edges.of keeps. -/
structure EInv (w : World) (A : Option Addr) (n cap : Nat) (A' : Option Addr) (c' : Nat) (vs : List Int) (bh bo B1 B2 : Nat) (vo : Value) (pre : List Edge) (W : World) : Prop where
  ext : Ext w W
  bh : Blk W bh 22 #[.slice A n cap]
  vs : W.ownsRow B1 3 1 (.slice A' vs.length c') vs.length (vs.flatMap intC)
  bo : Blk W bo 28 #[vo]
  out : W.ownsRow B2 24 5 vo pre.length (pre.flatMap Edge.cs)
  s1 : B1 ≤ W.heap.size
  s2 : B2 ≤ W.heap.size
section
variable {w W W' : World} {A A' : Option Addr} {n cap c' bh bo B1 B2 : Nat} {vs : List Int} {vo : Value} {pre : List Edge}
theorem EInv.go (h : EInv w A n cap A' c' vs bh bo B1 B2 vo pre W) (x : Ext W W') : EInv w A n cap A' c' vs bh bo B1 B2 vo pre W' :=
  ⟨h.ext.trans x, h.bh.ext x, own_ext h.vs h.s1 x, h.bo.ext x, own_ext h.out h.s2 x, Nat.le_trans h.s1 x.le, Nat.le_trans h.s2 x.le⟩
theorem EInv.put (h : EInv w A n cap A' c' vs bh bo B1 B2 vo pre W) (hb : ButRow bo vo W W') {v' : Value} {pre' : List Edge} (h1 : Blk W' bo 28 #[v']) (h2 : W'.ownsRow B2 24 5 v' pre'.length (pre'.flatMap Edge.cs))
    (c1 : w.heap.size ≤ bh) (c2 : bh < bo) (c3 : bo < B1) (c4 : B1 ≤ B2) : EInv w A n cap A' c' vs bh bo B1 B2 v' pre' W' :=
  ⟨hb.ext h.ext (by omega) (fun k hk => by have := own_block h.out k hk; omega), hb.blk h.bh (by omega) (blk_ne_own h.bh h.out (by decide)), hb.own h.vs c3 (YtebjiimlcnmfpaaGreatW.PrintWords.own_type_ne h.vs h.out (by decide)), h1, h2, Nat.le_trans h.s1 hb.size, Nat.le_trans h.s2 hb.size⟩
end

def verE (l : List Ev) (vs : List Int) (q : Nat) : List Edge := putE l 1 (inth vs q).toNat (inth vs (q + 1)).toNat
def seen (l : List Ev) (vs : List Int) (i : Nat) : Int := idx (fun k : Int => decide ((nth l k.toNat).val = (nth l i).val)) vs 0
def readE (l : List Ev) (key : ByteArray) (vs : List Int) (i : Nat) : List Edge :=
  if (nth l i).key = key ∧ outer l i = true then
    (if seen l vs i < 0 ∧ (nth l i).val ≠ ByteArray.empty then []
     else (if 0 ≤ seen l vs i then putE l 2 (inth vs (seen l vs i).toNat).toNat i else []) ++ (if seen l vs i + 1 < vs.length then putE l 3 i (inth vs (seen l vs i + 1).toNat).toNat else []))
  else []
def ofE (l : List Ev) (key : ByteArray) : List Edge := (List.range ((versions l key).length - 1)).flatMap (verE l (versions l key)) ++ (List.range l.length).flatMap (readE l key (versions l key))
theorem putE_len (l : List Ev) (kind : Int) (i k : Nat) : (putE l kind i k).length ≤ 1 := by unfold putE; split <;> simp
theorem fm_len {α β : Type} (f : α → List β) (c : Nat) (h : ∀ x, (f x).length ≤ c) : ∀ l : List α, (l.flatMap f).length ≤ l.length * c
  | [] => by simp
  | x :: r => by
    have := fm_len f c h r
    have := h x
    rw [List.flatMap_cons, List.length_append, List.length_cons, Nat.add_mul]; omega

theorem ne_isEmpty {a : ByteArray} (h : a ≠ ByteArray.empty) : a.toList.isEmpty = false := by
  cases e : a.toList.isEmpty
  · rfl
  · exact absurd (toList_inj.1 (by rw [List.isEmpty_iff.1 e]; first | kernel_rfl | simp [ByteArray.toList, ByteArray.toList.loop])) h
theorem seen_range (l : List Ev) (vs : List Int) (i : Nat) : -1 ≤ seen l vs i ∧ seen l vs i < vs.length := idx_lt _ vs
theorem e_seen (W : World) (b o n cap bh bi i c' : Nat) (A' : Option Addr) (l : List Ev) (vs : List Int) (hE : Evs W (some ⟨b, o, none⟩) n l) (hh : W.cell? ⟨bh, 0, none⟩ = some (.slice (some ⟨b, o, none⟩) n cap)) (hc : W.cell? ⟨bi, 0, none⟩ = some (.int .i64 (i : Int))) (hi : i < n)
    (hN : Nums W A' vs.length vs) (hV : ∀ q : Nat, q < vs.length → ∃ u : Nat, inth vs q = u ∧ u < n) :
    Calls Tryz.prog 89 #[.slice A' vs.length c', .func (.func 90) #[] #[.pointer (some ⟨bh, 0, none⟩), .pointer (some ⟨bi, 0, none⟩)]] W fun e w' => e = .returned (.int .i64 (seen l vs i)) ∧ Ext W w' :=
  idxInt 90 _ (fun k : Int => decide ((nth l k.toNat).val = (nth l i).val)) W A' vs.length c' vs hN (enters_of Tryz.func90 (by kernel_rfl) rfl) (fun w1 q hq hx => by
    obtain ⟨u, hu, hul⟩ := hV q hq
    rw [hu]
    exact e_same w1 b o n cap bh bi i u l (hE.ext hx) (hx.cell hh) (hx.cell hc) hi hul)

set_option maxRecDepth 100000 in
set_option maxHeartbeats 4000000 in
theorem e_of (w : World) (A : Option Addr) (n cap : Nat) (l : List Ev) (key : ByteArray) (hE : Evs w A n l) (hn : n ≤ 1000) (hc : n ≤ cap) :
    Calls Tryz.prog 48 #[.slice A n cap, .string key] w fun e w' => ∃ v, e = .returned v ∧ w'.ownsRow w.heap.size 24 5 v (ofE l key).length ((ofE l key).flatMap Edge.cs) ∧ Ext w w' := by
  have hX := Ext.refl w
  have hbig := hE.big
  have hl := hid hE.len
  have HE := hid hE
  have HV := hid (fun q => @vers_place l key q)
  have hvl : Hid ((versions l key).length ≤ 1000) := hid (by
    have := List.length_filterMap_le (verAt l key) (List.range l.length)
    rw [List.length_range] at this
    have := hl.out
    unfold versions
    omega)
  have b0 := (Blk.new w 22 #[.slice A n cap]).alloc (.cells #[.slice none 0 0] 28)
  have b1 := Blk.new (w.alloc (.cells #[.slice A n cap] 22)) 28 #[.slice none 0 0]
  rw [World.size_alloc] at b1
  have B0 := hid b0
  have B1 := hid b1
  clear hE b0 b1
  go_enter Tryz.func48, Tryz.ntmps48
  go_wp2_with (go_at_call 87; refine (h_versions _ _ _ _ l key (HE.out.ext ((hX.alloc _).alloc _)) hn hc).mono ?_; rintro e w1 ⟨v1, rfl, hown1, hx1⟩)
  obtain ⟨A', c', rfl⟩ := YtebjiimlcnmfpaaGreatW.PrintWords.own_slice hown1
  have hI0 : EInv w A n cap A' c' (versions l key) w.heap.size (w.heap.size + 1) (w.heap.size + 2) (w.heap.size + 2) (.slice none 0 0) [] w1 :=
    ⟨((hX.alloc _).alloc _).trans hx1, B0.out.ext hx1, own_base hown1 (by simp), B1.out.ext hx1, World.ownsRow_nil _ _ _ _, by have := hx1.le; simp at this; omega, by have := hx1.le; simp at this; omega⟩
  have HS : Hid (ofE l key = (List.range ((versions l key).length - 1)).flatMap (verE l (versions l key)) ++ (List.range l.length).flatMap (readE l key (versions l key))) := hid rfl
  clear hown1 hx1 B0 B1
  generalize versions l key = vs at *
  go_loopw [8] (fun i W => ∃ (q : Nat) (vo : Value) (pre : List Edge), (q < vs.length ∨ q = 0) ∧ i = .int .i64 ((q : Int) + 1) ∧ EInv w A n cap A' c' vs w.heap.size (w.heap.size + 1) (w.heap.size + 2) (w.heap.size + 2) vo pre W ∧ Hid (pre = (List.range q).flatMap (verE l vs)) ∧ pre.length ≤ q) (fun i _ => vs.length - (intOf i).toNat)
  case atStart => exact ⟨0, _, [], .inr rfl, rfl, hI0, hid rfl, by simp⟩
  case round =>
    obtain ⟨q, vo, pre, hk1, rfl, hI, hr, hpl⟩ := hrel
    by_cases hlt : q + 1 < vs.length
    · obtain ⟨u0, hu0, hl0⟩ := HV.out q (by omega)
      obtain ⟨u1, hu1, hl1⟩ := HV.out (q + 1) hlt
      rw [hl.out] at hl0 hl1
      obtain ⟨b', o', rfl, h0⟩ := (nums_of_own hI.vs (by have := hvl.out; omega)).2.opn (by omega)
      have c0 := h0 _ q (Ext.refl _) (by omega)
      have c1 := h0 _ (q + 1) (Ext.refl _) hlt
      rw [hu0] at c0
      rw [hu1] at c1
      obtain ⟨b, o, rfl, -⟩ := HE.out.opn (by omega)
      clear h0
      have hlq : (q : Int) + 1 < (vs.length : Int) := by omega
      have hlq0 : (q : Int) < (vs.length : Int) := by omega
      have hwq : IntKind.i64.wrap (q : Int) = q := by have := hvl.out; rw [IntKind.wrap_i64]; omega
      have hq1 : 0 ≤ (q : Int) + 1 := by omega
      go_wp2
      have hID := hI.go (Ext.refl wr).drew
      have HWS : Hid (wrap64 ((q : Int) + 1 + 1) = ((q + 1 : Nat) : Int) + 1) := hid (by have := hvl.out; unfold wrap64; omega)
      go_region_law (go_simp; refine (e_put wr.drew b o n cap (w.heap.size) (w.heap.size + 1) u0 u1 (w.heap.size + 2) 1 l vo pre (HE.out.ext hID.ext) hID.bh.cell0 hl0 hl1 hID.bo hID.out (by omega) hID.s2 (by have := hvl.out; omega)).mono ?_; rintro e w2 ⟨rfl, v2, hbo2, hown2, hbut2⟩)
      all_goals
        have hI2 := hID.put hbut2 hbo2 hown2 (Nat.le_refl _) (by omega) (by omega) (Nat.le_refl _)
        go_wp2
        go_roundw
        case rel =>
          refine ⟨q + 1, v2, _, .inl hlt, by rw [HWS.out], hI2, hid ?_, by have := putE_len l 1 u0 u1; simp; omega⟩
          rw [List.range_succ, List.flatMap_append, ← hr.out]
          simp [verE, hu0, hu1]
        case measure => rw [HWS.out]; simp [intOf]; omega
    · have hq : vs.length - 1 = q := by omega
      have cb := hI.bh.cell0
      rw [hq] at HS
      go_wp2
      go_loopw [34] (fun i W => ∃ (k : Nat) (vo : Value) (post : List Edge), k ≤ n ∧ i = .int .i64 k ∧ EInv w A n cap A' c' vs w.heap.size (w.heap.size + 1) (w.heap.size + 2) (w.heap.size + 2) vo (pre ++ post) W ∧ Hid (post = (List.range k).flatMap (readE l key vs)) ∧ post.length ≤ 2 * k) (fun i _ => n - (intOf i).toNat)
      case atStart => exact ⟨0, _, [], by omega, rfl, by rw [List.append_nil]; exact hI, hid rfl, by simp⟩
      case round =>
        clear hI cb
        obtain ⟨k, vo1, post, hk1, rfl, hI, hpost, hpl2⟩ := hrel
        by_cases hlt2 : k < n
        · obtain ⟨b, o, rfl, h0, h1, h2, h3⟩ := HE.out.opn (by omega)
          have hv1 := hvl.out
          have HV2 : Hid (∀ q : Nat, q < vs.length → ∃ u : Nat, inth vs q = u ∧ u < n) := hid (fun q hq => by obtain ⟨u, h, h'⟩ := HV.out q hq; exact ⟨u, h, by rw [← hl.out]; exact h'⟩)
          have hI1 := hI.go (Ext.alloc (Ext.refl _) (.cells #[.int .i64 k] 3))
          have hB1 := Blk.new wr 3 #[.int .i64 k]
          have cb := hI1.bh.cell0
          have ck := h2 _ k hI1.ext hlt2
          have ci := hB1.cell0
          have hwr := hI.s2
          by_cases hkey : (nth l k).key = key
          · cases ho : outer l (k : Int)
            · have hre : Hid (readE l key vs k = []) := hid (by unfold readE; rw [if_neg]; simp [ho])
              go_wp2_with (go_at_call 88; refine (t_outer _ _ _ _ l (k : Int) (HE.out.ext hI1.ext)).mono ?_; rintro e w4 ⟨rfl, hx4⟩; have hI4 := hI1.go hx4; have hB4 := hB1.ext hx4; have cb4 := hI4.bh.cell0; have ci4 := hB4.cell0; have cv4 := h3 _ k hI4.ext hlt2)
              go_roundw
              case rel => exact ⟨k + 1, vo1, post, by omega, by go_num, hI4, hid (by rw [List.range_succ, List.flatMap_append, ← hpost.out]; simp [hre.out]), by omega⟩
              case measure => simp [intOf]; omega
            · obtain ⟨s, hs⟩ : ∃ s, seen l vs k = s := ⟨_, rfl⟩
              have hsr := seen_range l vs k
              rw [hs] at hsr
              obtain ⟨hsr0, hsr1⟩ := hsr
              by_cases hs0 : s < 0
              · have hs1 : s = -1 := by omega
                subst hs1
                by_cases hval : (nth l k).val = ByteArray.empty
                · by_cases hlen : 0 < vs.length
                  · obtain ⟨u, hu, hul⟩ := HV2.out 0 hlen
                    have hre : Hid (readE l key vs k = putE l 3 k u) := hid (by simp [readE, hkey, ho, hs, hval, hlen, hu])
                    have hlen' : 0 < (vs.length : Int) := by omega
                    have hw0 : IntKind.i64.wrap 0 = 0 := by rw [IntKind.wrap_i64]; omega
                    go_wp2_with first
                      | (go_at_call 88; refine (t_outer _ _ _ _ l (k : Int) (HE.out.ext hI1.ext)).mono ?_; rintro e w4 ⟨rfl, hx4⟩; have hI4 := hI1.go hx4; have hB4 := hB1.ext hx4; have cb4 := hI4.bh.cell0; have ci4 := hB4.cell0; have cv4 := h3 _ k hI4.ext hlt2)
                      | (go_at_call 89; have hse := e_seen w4 b o n cap w.heap.size wr.heap.size k c' A' l vs (HE.out.ext hI4.ext) cb4 ci4 hlt2 (nums_of_own hI4.vs (by omega)).2 HV2.out; rw [hs] at hse; refine hse.mono ?_; rintro e w5 ⟨rfl, hx5⟩; have hI5 := hI4.go hx5; have hB5 := hB4.ext hx5; have cb5 := hI5.bh.cell0; have ci5 := hB5.cell0; have cv5 := h3 _ k hI5.ext hlt2)
                    obtain ⟨b', o', rfl, g0⟩ := (nums_of_own hI5.vs (by omega)).2.opn hlen
                    have d0 := g0 _ 0 (Ext.refl _) hlen
                    rw [hu, Nat.add_zero] at d0
                    have hD6 := hI5.go (Ext.refl w5).drew
                    go_region_law (go_simp; refine (e_put w5.drew b o n cap w.heap.size (w.heap.size + 1) k u (w.heap.size + 2) 3 l vo1 (pre ++ post) (HE.out.ext hD6.ext) hD6.bh.cell0 hlt2 hul hD6.bo hD6.out (by omega) hD6.s2 (by have := putE_len l 2 u k; simp; omega)).mono ?_; rintro e w6 ⟨rfl, v6, hbo6, hown6, hbut6⟩)
                    all_goals
                      have hI6 := hD6.put hbut6 hbo6 hown6 (Nat.le_refl _) (by omega) (by omega) (Nat.le_refl _)
                      have hB6 := hbut6.blk (W := w5.drew) hB5 (by omega) (blk_ne_own (W := w5.drew) hB5 hD6.out (by decide))
                      have cb6 := hI6.bh.cell0
                      have ci6 := hB6.cell0
                      have hN6 := (nums_of_own hI6.vs (by omega)).2
                      go_wp2
                      go_roundw
                      case rel => exact ⟨k + 1, v6, post ++ (putE l 3 k u), by omega, by go_num, by simpa [List.append_assoc] using hI6, hid (by rw [List.range_succ, List.flatMap_append, ← hpost.out]; simp [hre.out]), by have := putE_len l 3 k u; simp; omega⟩
                      case measure => simp [intOf]; omega
                  · have hre : Hid (readE l key vs k = []) := hid (by simp [readE, hkey, ho, hs, hval]; omega)
                    go_wp2_with first
                      | (go_at_call 88; refine (t_outer _ _ _ _ l (k : Int) (HE.out.ext hI1.ext)).mono ?_; rintro e w4 ⟨rfl, hx4⟩; have hI4 := hI1.go hx4; have hB4 := hB1.ext hx4; have cb4 := hI4.bh.cell0; have ci4 := hB4.cell0; have cv4 := h3 _ k hI4.ext hlt2)
                      | (go_at_call 89; have hse := e_seen w4 b o n cap w.heap.size wr.heap.size k c' A' l vs (HE.out.ext hI4.ext) cb4 ci4 hlt2 (nums_of_own hI4.vs (by omega)).2 HV2.out; rw [hs] at hse; refine hse.mono ?_; rintro e w5 ⟨rfl, hx5⟩; have hI5 := hI4.go hx5; have hB5 := hB4.ext hx5; have cb5 := hI5.bh.cell0; have ci5 := hB5.cell0; have cv5 := h3 _ k hI5.ext hlt2)
                    go_roundw
                    case rel => exact ⟨k + 1, vo1, post, by omega, by go_num, hI5, hid (by rw [List.range_succ, List.flatMap_append, ← hpost.out]; simp [hre.out]), by omega⟩
                    case measure => simp [intOf]; omega
                · have hre : Hid (readE l key vs k = []) := hid (by simp [readE, hkey, ho, hs, hval])
                  have hem := ne_isEmpty hval
                  go_wp2_with first
                    | (go_at_call 88; refine (t_outer _ _ _ _ l (k : Int) (HE.out.ext hI1.ext)).mono ?_; rintro e w4 ⟨rfl, hx4⟩; have hI4 := hI1.go hx4; have hB4 := hB1.ext hx4; have cb4 := hI4.bh.cell0; have ci4 := hB4.cell0; have cv4 := h3 _ k hI4.ext hlt2)
                    | (go_at_call 89; have hse := e_seen w4 b o n cap w.heap.size wr.heap.size k c' A' l vs (HE.out.ext hI4.ext) cb4 ci4 hlt2 (nums_of_own hI4.vs (by omega)).2 HV2.out; rw [hs] at hse; refine hse.mono ?_; rintro e w5 ⟨rfl, hx5⟩; have hI5 := hI4.go hx5; have hB5 := hB4.ext hx5; have cb5 := hI5.bh.cell0; have ci5 := hB5.cell0; have cv5 := h3 _ k hI5.ext hlt2)
                  go_roundw
                  case rel => exact ⟨k + 1, vo1, post, by omega, by go_num, hI5, hid (by rw [List.range_succ, List.flatMap_append, ← hpost.out]; simp [hre.out]), by omega⟩
                  case measure => simp [intOf]; omega
              · obtain ⟨m, rfl⟩ : ∃ m : Nat, s = m := ⟨s.toNat, by omega⟩
                have hm0 : ¬ (m : Int) < 0 := by omega
                have hm1 : m < vs.length := by omega
                obtain ⟨u, hu, hul⟩ := HV2.out m hm1
                have htn : ((m : Int) + 1).toNat = m + 1 := by omega
                by_cases hlen : m + 1 < vs.length
                · obtain ⟨u', hu', hul'⟩ := HV2.out (m + 1) hlen
                  have hlen' : (m : Int) + 1 < (vs.length : Int) := by omega
                  have hm3 : 0 ≤ (m : Int) + 1 := by omega
                  have hwm : IntKind.i64.wrap ((m : Int) + 1) = (m : Int) + 1 := by rw [IntKind.wrap_i64]; omega
                  have hre : Hid (readE l key vs k = putE l 2 u k ++ putE l 3 k u') := hid (by simp [readE, hkey, ho, hs, hm0, hlen', hu, htn, hu'])
                  go_wp2_with first
                    | (go_at_call 88; refine (t_outer _ _ _ _ l (k : Int) (HE.out.ext hI1.ext)).mono ?_; rintro e w4 ⟨rfl, hx4⟩; have hI4 := hI1.go hx4; have hB4 := hB1.ext hx4; have cb4 := hI4.bh.cell0; have ci4 := hB4.cell0; have cv4 := h3 _ k hI4.ext hlt2)
                    | (go_at_call 89; have hse := e_seen w4 b o n cap w.heap.size wr.heap.size k c' A' l vs (HE.out.ext hI4.ext) cb4 ci4 hlt2 (nums_of_own hI4.vs (by omega)).2 HV2.out; rw [hs] at hse; refine hse.mono ?_; rintro e w5 ⟨rfl, hx5⟩; have hI5 := hI4.go hx5; have hB5 := hB4.ext hx5; have cb5 := hI5.bh.cell0; have ci5 := hB5.cell0; have cv5 := h3 _ k hI5.ext hlt2)
                  obtain ⟨b', o', rfl, g0⟩ := (nums_of_own hI5.vs (by omega)).2.opn (by omega)
                  have d0 := g0 _ m (Ext.refl _) hm1
                  rw [hu] at d0
                  have hD6 := hI5.go (Ext.refl w5).drew
                  go_region_law (go_simp; refine (e_put w5.drew b o n cap w.heap.size (w.heap.size + 1) u k (w.heap.size + 2) 2 l vo1 (pre ++ post) (HE.out.ext hD6.ext) hD6.bh.cell0 hul hlt2 hD6.bo hD6.out (by omega) hD6.s2 (by have := putE_len l 2 u k; simp; omega)).mono ?_; rintro e w6 ⟨rfl, v6, hbo6, hown6, hbut6⟩)
                  all_goals
                    have hI6 := hD6.put hbut6 hbo6 hown6 (Nat.le_refl _) (by omega) (by omega) (Nat.le_refl _)
                    have hB6 := hbut6.blk (W := w5.drew) hB5 (by omega) (blk_ne_own (W := w5.drew) hB5 hD6.out (by decide))
                    have cb6 := hI6.bh.cell0
                    have ci6 := hB6.cell0
                    have hN6 := (nums_of_own hI6.vs (by omega)).2
                    obtain ⟨b2, o2, e2, g1⟩ := hN6.opn (by omega)
                    cases e2
                    have d1 := g1 _ (m + 1) (Ext.refl _) hlen
                    rw [hu'] at d1
                    go_wp2
                    have hD7 := hI6.go (Ext.refl w6).drew
                    go_region_law (go_simp; refine (e_put w6.drew b o n cap w.heap.size (w.heap.size + 1) k u' (w.heap.size + 2) 3 l v6 (pre ++ post ++ putE l 2 u k) (HE.out.ext hD7.ext) hD7.bh.cell0 hlt2 hul' hD7.bo hD7.out (by omega) hD7.s2 (by have := putE_len l 2 u k; simp; omega)).mono ?_; rintro e w7 ⟨rfl, v7, hbo7, hown7, hbut7⟩)
                    all_goals
                      have hI7 := hD7.put hbut7 hbo7 hown7 (Nat.le_refl _) (by omega) (by omega) (Nat.le_refl _)
                      have hB7 := hbut7.blk (W := w6.drew) hB6 (by omega) (blk_ne_own (W := w6.drew) hB6 hD7.out (by decide))
                      have cb7 := hI7.bh.cell0
                      have ci7 := hB7.cell0
                      have hN7 := (nums_of_own hI7.vs (by omega)).2
                      go_wp2
                      go_roundw
                      case rel => exact ⟨k + 1, v7, post ++ (putE l 2 u k ++ putE l 3 k u'), by omega, by go_num, by simpa [List.append_assoc] using hI7, hid (by rw [List.range_succ, List.flatMap_append, ← hpost.out]; simp [hre.out]), by have := putE_len l 2 u k; have := putE_len l 3 k u'; simp; omega⟩
                      case measure => simp [intOf]; omega
                · have hlen' : ¬ (m : Int) + 1 < (vs.length : Int) := by omega
                  have hre : Hid (readE l key vs k = putE l 2 u k) := hid (by simp [readE, hkey, ho, hs, hm0, hlen', hu])
                  go_wp2_with first
                    | (go_at_call 88; refine (t_outer _ _ _ _ l (k : Int) (HE.out.ext hI1.ext)).mono ?_; rintro e w4 ⟨rfl, hx4⟩; have hI4 := hI1.go hx4; have hB4 := hB1.ext hx4; have cb4 := hI4.bh.cell0; have ci4 := hB4.cell0; have cv4 := h3 _ k hI4.ext hlt2)
                    | (go_at_call 89; have hse := e_seen w4 b o n cap w.heap.size wr.heap.size k c' A' l vs (HE.out.ext hI4.ext) cb4 ci4 hlt2 (nums_of_own hI4.vs (by omega)).2 HV2.out; rw [hs] at hse; refine hse.mono ?_; rintro e w5 ⟨rfl, hx5⟩; have hI5 := hI4.go hx5; have hB5 := hB4.ext hx5; have cb5 := hI5.bh.cell0; have ci5 := hB5.cell0; have cv5 := h3 _ k hI5.ext hlt2)
                  obtain ⟨b', o', rfl, g0⟩ := (nums_of_own hI5.vs (by omega)).2.opn (by omega)
                  have d0 := g0 _ m (Ext.refl _) hm1
                  rw [hu] at d0
                  have hD6 := hI5.go (Ext.refl w5).drew
                  go_region_law (go_simp; refine (e_put w5.drew b o n cap w.heap.size (w.heap.size + 1) u k (w.heap.size + 2) 2 l vo1 (pre ++ post) (HE.out.ext hD6.ext) hD6.bh.cell0 hul hlt2 hD6.bo hD6.out (by omega) hD6.s2 (by have := putE_len l 2 u k; simp; omega)).mono ?_; rintro e w6 ⟨rfl, v6, hbo6, hown6, hbut6⟩)
                  all_goals
                    have hI6 := hD6.put hbut6 hbo6 hown6 (Nat.le_refl _) (by omega) (by omega) (Nat.le_refl _)
                    have hB6 := hbut6.blk (W := w5.drew) hB5 (by omega) (blk_ne_own (W := w5.drew) hB5 hD6.out (by decide))
                    have cb6 := hI6.bh.cell0
                    have ci6 := hB6.cell0
                    have hN6 := (nums_of_own hI6.vs (by omega)).2
                    go_wp2
                    go_roundw
                    case rel => exact ⟨k + 1, v6, post ++ (putE l 2 u k), by omega, by go_num, by simpa [List.append_assoc] using hI6, hid (by rw [List.range_succ, List.flatMap_append, ← hpost.out]; simp [hre.out]), by have := putE_len l 2 u k; simp; omega⟩
                    case measure => simp [intOf]; omega
          · have hre : Hid (readE l key vs k = []) := hid (by unfold readE; rw [if_neg]; simp [hkey])
            go_wp2
            go_roundw
            case rel => exact ⟨k + 1, vo1, post, by omega, by go_num, hI1, hid (by rw [List.range_succ, List.flatMap_append, ← hpost.out]; simp [hre.out]), by omega⟩
            case measure => simp [intOf]; omega
        · have cb := hI.bo.cell0
          go_wp2
          have e : ofE l key = pre ++ post := by rw [HS.out, ← hr.out, hl.out, show n = k by omega, ← hpost.out]
          go_ret
          refine ⟨_, rfl, ?_, hI.ext⟩
          rw [e]
          exact own_base hI.out (by omega)
end
end
end Go.Proofs.YtebjiimlcnmfpaaGreat

/-! What the edges say: plain facts. -/
namespace Go.Proofs.YtebjiimlcnmfpaaGreat
section
section
open Go

theorem mem_putE {l : List Ev} {kind : Int} {i k : Nat} {e : Edge} (h : e ∈ putE l kind i k) : (nth l i).txn ≠ (nth l k).txn ∧ e = ⟨kind, (nth l i).txn, (nth l k).txn, i, k⟩ := by
  unfold putE at h
  split at h
  · cases h
  · rename_i hn
    exact ⟨hn, List.mem_singleton.1 h⟩
theorem vers_good {l : List Ev} {key : ByteArray} {x : Int} (hm : x ∈ versions l key) : ∃ u : Nat, x = u ∧ u < l.length ∧ (nth l u).key = key ∧ (nth l u).kind = 3 ∧ comOf l (nth l u).txn = true := by
  obtain ⟨i, _, hi⟩ := List.mem_filterMap.1 hm
  unfold verAt at hi
  split at hi
  · rename_i hc
    injection hi with hi
    obtain ⟨hk, he, h0⟩ := hc
    rcases last_nth (wroteBy (nth l i).txn key) l (i : Int).toNat with ⟨e, _⟩ | ⟨u, h1, _, h2, h3, _⟩
    · exfalso
      unfold lastOf at h0
      omega
    · have hw : (nth l u).kind = 3 ∧ (nth l u).txn = (nth l i).txn ∧ (nth l u).key = key := by simpa [wroteBy] using h3
      refine ⟨u, by rw [← hi]; exact h2, h1, hw.2.2, hw.1, ?_⟩
      unfold comOf
      rw [hw.2.1, he]
      simp [hk]
  · cases hi
theorem inth_mem {l : List Int} {q : Nat} (h : q < l.length) : inth l q ∈ l := by
  unfold inth
  rw [List.getD_eq_getElem?_getD, List.getElem?_eq_getElem h]
  exact List.getElem_mem _
theorem outer_com {l : List Ev} {i : Nat} (h : outer l i = true) : comOf l (nth l i).txn = true := by
  unfold outer counts at h
  simp at h
  exact h.1.2.2.1
def GoodE (l : List Ev) (e : Edge) : Prop := ∃ i j : Nat, e.i = i ∧ e.j = j ∧ i < l.length ∧ j < l.length ∧ e.from_ = (nth l i).txn ∧ e.to_ = (nth l j).txn ∧ (nth l i).txn ≠ (nth l j).txn ∧ (nth l i).key = (nth l j).key ∧ comOf l (nth l i).txn = true ∧ comOf l (nth l j).txn = true ∧ (e.kind = 1 ∨ e.kind = 2 ∨ e.kind = 3)
theorem put_good {l : List Ev} {kind : Int} {i k : Nat} {e : Edge} {key : ByteArray} (h : e ∈ putE l kind i k) (hi : i < l.length ∧ (nth l i).key = key ∧ comOf l (nth l i).txn = true) (hk : k < l.length ∧ (nth l k).key = key ∧ comOf l (nth l k).txn = true) (hc : kind = 1 ∨ kind = 2 ∨ kind = 3) : GoodE l e := by
  obtain ⟨h1, rfl⟩ := mem_putE h
  exact ⟨i, k, rfl, rfl, hi.1, hk.1, rfl, rfl, h1, hi.2.1.trans hk.2.1.symm, hi.2.2, hk.2.2, hc⟩
theorem of_good {l : List Ev} {key : ByteArray} {e : Edge} (h : e ∈ ofE l key) : GoodE l e := by
  unfold ofE at h
  rcases List.mem_append.1 h with h | h
  · obtain ⟨q, hq, he⟩ := List.mem_flatMap.1 h
    have hq' := List.mem_range.1 hq
    obtain ⟨u0, a0, b0, c0, _, d0⟩ := vers_good (inth_mem (l := versions l key) (q := q) (by omega))
    obtain ⟨u1, a1, b1, c1, _, d1⟩ := vers_good (inth_mem (l := versions l key) (q := q + 1) (by omega))
    unfold verE at he
    rw [a0, a1, Int.toNat_natCast, Int.toNat_natCast] at he
    exact put_good he ⟨b0, c0, d0⟩ ⟨b1, c1, d1⟩ (.inl rfl)
  · obtain ⟨i, hi, he⟩ := List.mem_flatMap.1 h
    have hi' := List.mem_range.1 hi
    unfold readE at he
    by_cases c1 : (nth l i).key = key ∧ outer l i = true
    · rw [if_pos c1] at he
      have hI := And.intro hi' (And.intro c1.1 (outer_com c1.2))
      have hs := seen_range l (versions l key) i
      by_cases c2 : seen l (versions l key) i < 0 ∧ (nth l i).val ≠ ByteArray.empty
      · rw [if_pos c2] at he; cases he
      · rw [if_neg c2] at he
        rcases List.mem_append.1 he with he | he
        · by_cases c3 : 0 ≤ seen l (versions l key) i
          · rw [if_pos c3] at he
            obtain ⟨u, a, b, c, _, d⟩ := vers_good (inth_mem (l := versions l key) (q := (seen l (versions l key) i).toNat) (by omega))
            rw [a, Int.toNat_natCast] at he
            exact put_good he ⟨b, c, d⟩ hI (.inr (.inl rfl))
          · rw [if_neg c3] at he; cases he
        · by_cases c3 : seen l (versions l key) i + 1 < (versions l key).length
          · rw [if_pos c3] at he
            obtain ⟨u, a, b, c, _, d⟩ := vers_good (inth_mem (l := versions l key) (q := (seen l (versions l key) i + 1).toNat) (by omega))
            rw [a, Int.toNat_natCast] at he
            exact put_good he hI ⟨b, c, d⟩ (.inr (.inr rfl))
          · rw [if_neg c3] at he; cases he
    · rw [if_neg c1] at he; cases he
theorem of_len (l : List Ev) (key : ByteArray) (hl : l.length ≤ 1000) : (ofE l key).length ≤ 3000 := by
  have h1 := fm_len (verE l (versions l key)) 1 (fun q => putE_len _ _ _ _) (List.range ((versions l key).length - 1))
  have h2 := fm_len (readE l key (versions l key)) 2 (fun i => by
    unfold readE
    have p := putE_len l 2 (inth (versions l key) (seen l (versions l key) i).toNat).toNat i
    have q := putE_len l 3 i (inth (versions l key) (seen l (versions l key) i + 1).toNat).toNat
    split
    · split
      · simp
      · rw [List.length_append]
        split <;> split <;> simp <;> omega
    · simp) (List.range l.length)
  have hv := List.length_filterMap_le (verAt l key) (List.range l.length)
  have hv' : (versions l key).length ≤ l.length := by unfold versions; rw [List.length_range] at hv; exact hv
  rw [List.length_range] at h1 h2
  unfold ofE
  rw [List.length_append]
  omega
end
end
end Go.Proofs.YtebjiimlcnmfpaaGreat

/-! What the edges say of order and values: plain facts. -/
namespace Go.Proofs.YtebjiimlcnmfpaaGreat
section
section
open Go

theorem verAt_end {l : List Ev} {key : ByteArray} {a : Nat} {x : Int} (h : verAt l key a = some x) : endOf l (nth l x.toNat).txn = a := by
  unfold verAt at h
  split at h
  · rename_i hc
    injection h with hi
    obtain ⟨hk, he, h0⟩ := hc
    rcases last_nth (wroteBy (nth l a).txn key) l (a : Int).toNat with ⟨e, _⟩ | ⟨u, h1, _, h2, h3, _⟩
    · exfalso
      unfold lastOf at h0
      omega
    · have hw : (nth l u).kind = 3 ∧ (nth l u).txn = (nth l a).txn ∧ (nth l u).key = key := by simpa [wroteBy] using h3
      have hx : x = u := by rw [← hi]; exact h2
      rw [hx, Int.toNat_natCast, hw.2.1, he]
  · cases h
theorem vers_rise (l : List Ev) (key : ByteArray) : (versions l key).Pairwise (fun x y => endOf l (nth l x.toNat).txn < endOf l (nth l y.toNat).txn) := by
  unfold versions
  rw [List.pairwise_filterMap]
  refine (List.pairwise_lt_range).imp ?_
  intro a b hab x hx y hy
  rw [verAt_end hx, verAt_end hy]
  omega
theorem inth_get {l : List Int} {q : Nat} (h : q < l.length) : inth l q = l[q] := by
  unfold inth
  rw [List.getD_eq_getElem?_getD, List.getElem?_eq_getElem h]
  rfl
theorem vers_next {l : List Ev} {key : ByteArray} {q : Nat} (h : q + 1 < (versions l key).length) : endOf l (nth l (inth (versions l key) q).toNat).txn < endOf l (nth l (inth (versions l key) (q + 1)).toNat).txn := by
  rw [inth_get h, inth_get (show q < _ by omega)]
  exact List.pairwise_iff_getElem.1 (vers_rise l key) q (q + 1) (by omega) h (by omega)
theorem com_till {l : List Ev} {t : Int} (h : comOf l t = true) : (findL l t).1.till = endOf l t := by
  unfold comOf at h
  have h' : 0 ≤ endOf l t ∧ (nth l (endOf l t).toNat).kind = 4 := by simpa using h
  obtain ⟨e, _, he1, he2, _⟩ := endOf_place h'.1
  have hf : ¬ firstOf l t < 0 := by
    rcases idx_nth (isOf t) l with ⟨_, hq⟩ | ⟨q, _, hq, _⟩
    · have := hq e he1
      simp [isOf, he2] at this
    · rw [firstOf, hq]; omega
  unfold findL
  rw [if_neg hf, if_neg (by omega)]
theorem seen_val {l : List Ev} {vs : List Int} {i : Nat} (h : 0 ≤ seen l vs i) : (nth l (inth vs (seen l vs i).toNat).toNat).val = (nth l i).val := by
  unfold seen at h ⊢
  rcases idx_spec (fun k : Int => decide ((nth l k.toNat).val = (nth l i).val)) vs 0 with ⟨e, _⟩ | ⟨k, hk, e, h2, _⟩
  · have e' : idx (fun k : Int => decide ((nth l k.toNat).val = (nth l i).val)) vs 0 = -1 := e
    rw [e'] at h; omega
  · have e' : idx (fun k : Int => decide ((nth l k.toNat).val = (nth l i).val)) vs 0 = (k : Int) := by simpa using e
    rw [e', Int.toNat_natCast, inth_get hk]
    exact of_decide_eq_true h2
end
end
end Go.Proofs.YtebjiimlcnmfpaaGreat
