/-
  The program's edges.put and edges.Steps.
-/
import Derived.Test.YtebjiimlcnmfpaaGreatA20
import Derived.Test.YtebjiimlcnmfpaaGreatA12
set_option linter.unusedVariables false
set_option linter.unusedSimpArgs false
namespace Go.Proofs.YtebjiimlcnmfpaaGreat
section
open Go Go.RowKit Go.Proofs Go.Shelf
set_option linter.unusedSimpArgs false
set_option linter.unusedVariables false
attribute [local go_sem] Ext.alloc Ext.alloc2 Ext.alloc3 Ext.alloc4 Ext.drewN_alloc Ext.drewN_alloc2 Ext.drew_alloc Ext.drew Ext.drewN toList_beq
attribute [-go_sem] Builtin.append_

def kEdge : Kd Edge := Kd.flat 5 Edge.z Edge.cs (fun _ => rfl)
def enth (l : List Edge) (i : Nat) : Edge := l.getD i Edge.z
abbrev Edgs (w : World) (A : Option Addr) (n : Nat) (l : List Edge) : Prop := Sl kEdge w A n l
theorem Edgs.opn {w : World} {A : Option Addr} {n : Nat} {l : List Edge} (h : Edgs w A n l) (hn : 0 < n) : ∃ b o, A = some ⟨b, o, none⟩ ∧
    (∀ W i, Ext w W → i < n → W.cell? ⟨b, o + i * 5, none⟩ = some (.int .i64 (enth l i).kind)) ∧
    (∀ W i, Ext w W → i < n → W.cell? ⟨b, o + i * 5 + 1, none⟩ = some (.int .i64 (enth l i).from_)) ∧
    (∀ W i, Ext w W → i < n → W.cell? ⟨b, o + i * 5 + 2, none⟩ = some (.int .i64 (enth l i).to_)) ∧
    (∀ W i, Ext w W → i < n → W.cell? ⟨b, o + i * 5 + 3, none⟩ = some (.int .i64 (enth l i).i)) ∧
    (∀ W i, Ext w W → i < n → W.cell? ⟨b, o + i * 5 + 4, none⟩ = some (.int .i64 (enth l i).j)) := by
  obtain ⟨b, o, e, hg⟩ := h.get hn
  have hh : ∀ W i j u, Ext w W → i < n → (enth l i).cs[j]? = some u → W.cell? ⟨b, o + i * 5 + j, none⟩ = some u := fun W i j u hx hi hu => by
    obtain ⟨cs, hR, hc⟩ := hg i hi
    have hcs : cs = (enth l i).cs := hR
    exact hx.cell (hc j u (by rw [hcs]; exact hu))
  exact ⟨b, o, e, fun W i hx hi => hh W i 0 _ hx hi rfl, fun W i hx hi => hh W i 1 _ hx hi rfl, fun W i hx hi => hh W i 2 _ hx hi rfl, fun W i hx hi => hh W i 3 _ hx hi rfl, fun W i hx hi => hh W i 4 _ hx hi rfl⟩

/-- A step of the spec: whence, whither, by which edges. -/
structure SE where
  fr : Int
  to_ : Int
  es : List Edge
def twoE (lev : Int) (l : List Edge) (e : Edge) : List SE := (l.filter fun f => decide (lev = 2 ∧ f.kind = 3 ∧ f.from_ = e.to_)).map fun f => ⟨e.from_, f.to_, [e, f]⟩
def oneE (lev : Int) (l : List Edge) (e : Edge) : List SE := if lev = 1 ∨ (lev = 2 ∧ e.kind ≠ 3) then ⟨e.from_, e.to_, [e]⟩ :: twoE lev l e else []
theorem twoE_len (lev : Int) (l : List Edge) (e : Edge) : (twoE lev l e).length ≤ l.length := by
  unfold twoE
  rw [List.length_map]
  exact List.length_filter_le _ _
theorem twoE_step (lev : Int) (l : List Edge) (e : Edge) {m : Nat} (h : m < l.length) : twoE lev (l.take (m + 1)) e = twoE lev (l.take m) e ++ (if lev = 2 ∧ (enth l m).kind = 3 ∧ (enth l m).from_ = e.to_ then [⟨e.from_, (enth l m).to_, [e, enth l m]⟩] else []) := by
  have hm : enth l m = l[m] := by unfold enth; rw [List.getD_eq_getElem?_getD, List.getElem?_eq_getElem h]; rfl
  unfold twoE
  rw [List.take_add_one, List.filter_append, List.map_append, List.getElem?_eq_getElem h, hm]
  congr 1
  by_cases hc : lev = 2 ∧ l[m].kind = 3 ∧ l[m].from_ = e.to_
  · rw [if_pos hc]; simp [hc]
  · rw [if_neg hc, Option.toList_some, List.filter_cons, if_neg (by simpa using hc)]; rfl
/-- A step as it lies in memory, and as the spec has it. -/
structure BE where
  s : Stp
  t : SE
def Held (B : Nat) (W : World) (b : BE) : Prop := b.s.fr = b.t.fr ∧ b.s.to_ = b.t.to_ ∧ W.ownsRow B 24 5 (.slice b.s.ad b.s.len b.s.cap) b.t.es.length (b.t.es.flatMap Edge.cs)
structure SInv (w : World) (v : Value) (pre : List BE) (W : World) : Prop where
  ext : Ext w W
  out : W.ownsRow w.heap.size 80 3 v (pre.map BE.s).length ((pre.map BE.s).flatMap Stp.cs)
  all : ∀ b ∈ pre, Held w.heap.size W b
theorem SInv.go {w W W' : World} {v : Value} {pre : List BE} (h : SInv w v pre W) (x : Ext W W') : SInv w v pre W' :=
  ⟨h.ext.trans x, own_ext h.out h.ext.le x, fun b hb => ⟨(h.all b hb).1, (h.all b hb).2.1, own_ext (h.all b hb).2.2 h.ext.le x⟩⟩
theorem own_other {W W' : World} {B B' : Nat} {e e' : TypeId} {sz sz' n m : Nat} {u v : Value} {xs ys : List Value} (hne : e ≠ e') (hu : W.ownsRow B e sz u n xs) (hv : W.ownsRow B' e' sz' v m ys) (hg : W.grownBy W' v.ownBlock) : W'.ownsRow B e sz u n xs := by
  refine YtebjiimlcnmfpaaGreatW.PrintWords.own_move hu (fun k hk => ?_)
  obtain ⟨_, ⟨rfl, _⟩ | ⟨g, cap, cur, rfl, h3, h4, h5⟩⟩ := hu
  · cases hk
  · have hgk : g = k := by simpa [Value.ownBlock] using hk
    subst hgk
    refine hg.block g (by have := Array.getElem?_eq_some_iff.1 h4; exact this.1) (fun he => ?_)
    obtain ⟨_, ⟨rfl, _⟩ | ⟨g', cap', cur', rfl, h3', h4', h5'⟩⟩ := hv
    · cases he
    · have hgk : g = g' := by simpa [Value.ownBlock] using he
      subst hgk
      rw [h4] at h4'
      injection h4' with h4'
      injection h4' with _ h4'
      exact hne h4'
theorem SInv.put {w W W' : World} {v v' : Value} {pre : List BE} (h : SInv w v pre W) (b : BE) (hb : Held w.heap.size W b) (hg : W.grownBy W' v.ownBlock) (ho : W'.ownsRow w.heap.size 80 3 v' (pre.map BE.s ++ [b.s]).length ((pre.map BE.s ++ [b.s]).flatMap Stp.cs)) : SInv w v' (pre ++ [b]) W' := by
  refine ⟨Ext.grown h.ext hg (own_block h.out), by rw [List.map_append]; exact ho, fun c hc => ?_⟩
  have hh : Held w.heap.size W c := by
    rcases List.mem_append.1 hc with hc | hc
    · exact h.all c hc
    · rw [List.mem_singleton.1 hc]; exact hb
  exact ⟨hh.1, hh.2.1, own_other (by decide) hh.2.2 h.out hg⟩
theorem own_fresh (w : World) (e : Edge) {B : Nat} (hB : B ≤ w.heap.size) : (w.alloc (.cells e.cs.toArray 24)).ownsRow B 24 5 (.slice (some ⟨w.heap.size, 0, none⟩) 1 1) [e].length ([e].flatMap Edge.cs) := by
  refine ⟨by simp [Edge.cs], .inr ⟨w.heap.size, 1, e.cs.toArray, rfl, hB, ?_, Nat.le_refl _, by unfold maxLen; omega, rfl, by simp [Edge.cs]⟩⟩
  exact heap_alloc_new w _

theorem add_zero_none (b j : Nat) : (⟨b, 0, none⟩ : Addr).add j = ⟨b, j, none⟩ := by unfold Addr.add; split <;> simp_all
theorem Blk.row {W : World} {g : Nat} {t : TypeId} {e : Edge} (h : Blk W g t e.cs.toArray) : ∀ j u, e.cs[j]? = some u → W.cell? ⟨g, j, none⟩ = some u := fun j u hj => (h.cell j).trans (by rw [List.getElem?_toArray]; exact hj)
set_option maxHeartbeats 1000000 in
theorem s_put (w : World) (g h : Nat) (e f : Edge) (he : ∀ j u, e.cs[j]? = some u → w.cell? ⟨g, j, none⟩ = some u) (hf : ∀ j u, f.cs[j]? = some u → w.cell? ⟨h, j, none⟩ = some u) :
    Calls Tryz.prog 102 #[.slice (some ⟨g, 0, none⟩) 1 1, .slice (some ⟨h, 0, none⟩) 1 1] w fun x w' => ∃ A m c, x = .returned (.slice A m c) ∧ w'.ownsRow w.heap.size 24 5 (.slice A m c) [e, f].length ([e, f].flatMap Edge.cs) ∧ Ext w w' := by
  have hX := Ext.refl w
  obtain ⟨i0, hi0, hz0, hz1, hz2⟩ := info_parts infoEdge
  obtain ⟨v', w', hrun, hown, hgr⟩ := run_append_arg_grows (P := Tryz.prog) w 28 28 24 i0 _ 5 40 Tryz.underlying28 hi0 hz0 hz1 hz2 rfl (by decide) ⟨g, 0, none⟩ 1 1 e.cs rfl (fun j u hj => by rw [add_zero_none]; exact he j u hj) ⟨h, 0, none⟩ 1 1 f.cs rfl (fun j u hj => by rw [add_zero_none]; exact hf j u hj) (by omega) (by unfold maxLen; omega) (by omega)
  have hx : Ext w w' := Ext.grown hX hgr (fun k hk => by cases hk)
  obtain ⟨A, c, rfl⟩ := YtebjiimlcnmfpaaGreatW.PrintWords.own_slice hown
  clear he hf hgr
  go_enter Tryz.func102, Tryz.ntmps102
  go_wp2
  go_ret
  exact ⟨A, _, c, rfl, by simpa using hown, hx⟩

set_option maxRecDepth 100000 in
set_option maxHeartbeats 4000000 in
theorem e_steps (w : World) (A : Option Addr) (n cap : Nat) (lev : Int) (l : List Edge) (hE : Edgs w A n l) (hn : (n * (n + 1)) * 40 ≤ 140737488351232) :
    Calls Tryz.prog 65 #[.int .i64 lev, .slice A n cap] w fun e w' => ∃ v pre, e = .returned v ∧ pre.map BE.t = l.flatMap (oneE lev l) ∧ SInv w v pre w' := by
  have hX := Ext.refl w
  have hbig := hE.big
  have hl := hid (Sl.len hE)
  have HE := hid hE
  have HN := hid hn
  clear hE hn
  go_enter Tryz.func65, Tryz.ntmps65
  go_wp2
  go_loopw [5, 13] (fun out i W => ∃ (k : Nat) (pre : List BE), k ≤ n ∧ i = .int .i64 k ∧ SInv w out pre W ∧ Hid (pre.map BE.t = (l.take k).flatMap (oneE lev l)) ∧ Hid (pre.length ≤ k * (n + 1))) (fun _ i _ => n - (RowKit.intOf i).toNat)
  case atStart => exact ⟨0, [], by omega, rfl, ⟨hX, World.ownsRow_nil _ _ _ _, fun b hb => by cases hb⟩, hid rfl, hid (by simp)⟩
  case round =>
    obtain ⟨k, pre, hk1, rfl, hI, hr, hpl⟩ := hrel
    have hX1 := Ext.refl wr
    by_cases hlt : k < n
    · obtain ⟨b, o, rfl, h0, h1, h2, h3, h4⟩ := HE.out.opn (by omega)
      have hW := hI.ext
      have hX1 := Ext.refl wr
      have hst : Hid ((l.take (k + 1)).flatMap (oneE lev l) = (l.take k).flatMap (oneE lev l) ++ oneE lev l (enth l k)) := hid (by
        rw [List.take_add_one, List.flatMap_append, List.getElem?_eq_getElem (by rw [hl.out]; exact hlt)]
        simp only [Option.toList_some, List.flatMap_cons, List.flatMap_nil, List.append_nil]
        congr 2
        unfold enth
        rw [List.getD_eq_getElem?_getD, List.getElem?_eq_getElem (by rw [hl.out]; exact hlt)]
        rfl)
      by_cases hc : lev = 1 ∨ (lev = 2 ∧ (enth l k).kind ≠ 3)
      · have hyes : Hid (oneE lev l (enth l k) = ⟨(enth l k).from_, (enth l k).to_, [enth l k]⟩ :: twoE lev l (enth l k)) := hid (if_pos hc)
        have hrs := hI.ext.le
        have hA1 := Ext.alloc hX1 (.cells #[.int .i64 (enth l k).kind, .int .i64 (enth l k).from_, .int .i64 (enth l k).to_, .int .i64 (enth l k).i, .int .i64 (enth l k).j] 24)
        have hA2 := Ext.alloc hA1 (.cells #[.int .i64 (enth l k).kind, .int .i64 (enth l k).from_, .int .i64 (enth l k).to_, .int .i64 (enth l k).i, .int .i64 (enth l k).j] 24)
        have hI1 := hI.go hA2
        have p1 := (Blk.new wr 24 #[.int .i64 (enth l k).kind, .int .i64 (enth l k).from_, .int .i64 (enth l k).to_, .int .i64 (enth l k).i, .int .i64 (enth l k).j]).alloc (.cells #[.int .i64 (enth l k).kind, .int .i64 (enth l k).from_, .int .i64 (enth l k).to_, .int .i64 (enth l k).i, .int .i64 (enth l k).j] 24)
        have p2 := Blk.new (wr.alloc (.cells #[.int .i64 (enth l k).kind, .int .i64 (enth l k).from_, .int .i64 (enth l k).to_, .int .i64 (enth l k).i, .int .i64 (enth l k).j] 24)) 24 #[.int .i64 (enth l k).kind, .int .i64 (enth l k).from_, .int .i64 (enth l k).to_, .int .i64 (enth l k).i, .int .i64 (enth l k).j]
        have hheld : Held w.heap.size ((wr.alloc (.cells #[.int .i64 (enth l k).kind, .int .i64 (enth l k).from_, .int .i64 (enth l k).to_, .int .i64 (enth l k).i, .int .i64 (enth l k).j] 24)).alloc (.cells #[.int .i64 (enth l k).kind, .int .i64 (enth l k).from_, .int .i64 (enth l k).to_, .int .i64 (enth l k).i, .int .i64 (enth l k).j] 24)) ⟨⟨(enth l k).from_, (enth l k).to_, some ⟨wr.heap.size + 1, 0, none⟩, 1, 1⟩, ⟨(enth l k).from_, (enth l k).to_, [enth l k]⟩⟩ :=
          ⟨rfl, rfl, by have := own_fresh (wr.alloc (.cells #[.int .i64 (enth l k).kind, .int .i64 (enth l k).from_, .int .i64 (enth l k).to_, .int .i64 (enth l k).i, .int .i64 (enth l k).j] 24)) (enth l k) (B := w.heap.size) (by simp; omega); simpa [Edge.cs] using this⟩
        have hmul : Hid (pre.length * 40 + 40 * (n + 1) ≤ 140737488351232) := hid (by
          have h5 : (k + 1) * (n + 1) ≤ n * (n + 1) := Nat.mul_le_mul_right _ (by omega)
          have := hpl.out
          have := HN.out
          rw [Nat.succ_mul] at h5
          omega)
        have hmul0 := hmul.out
        obtain ⟨v', w2, hrun, hown2, hgrow2, hat2⟩ := app_stp hI1.out (by have := hI1.ext.le; exact this) (by simp; omega) 34 ⟨(enth l k).from_, (enth l k).to_, some ⟨wr.heap.size + 1, 0, none⟩, 1, 1⟩
        have hI2 := hI1.put _ hheld hgrow2 hown2
        have q1 := p1.grown hgrow2 (blk_ne_row p1 hI1.out (by decide))
        have q2 := p2.grown hgrow2 (blk_ne_row p2 hI1.out (by decide))
        simp only [World.size_alloc] at q2 hrun
        clear hheld hmul0 hown2 hgrow2 hat2 p1 p2 hA1 hA2 hI1 hI
        rcases hc with rfl | ⟨rfl, hk3⟩
        · go_wp2
          obtain ⟨wo, hwo⟩ : ∃ wo, wo = wr := ⟨_, rfl⟩
          subst hwo
          go_loopw [5, 41] (fun out i W => ∃ (m : Nat) (post : List BE), m ≤ n ∧ i = .int .i64 m ∧ SInv w out (pre ++ post) W ∧ Blk W wo.heap.size 24 #[.int .i64 (enth l k).kind, .int .i64 (enth l k).from_, .int .i64 (enth l k).to_, .int .i64 (enth l k).i, .int .i64 (enth l k).j] ∧ Blk W (wo.heap.size + 1) 24 #[.int .i64 (enth l k).kind, .int .i64 (enth l k).from_, .int .i64 (enth l k).to_, .int .i64 (enth l k).i, .int .i64 (enth l k).j] ∧ Hid (post.map BE.t = ⟨(enth l k).from_, (enth l k).to_, [enth l k]⟩ :: twoE 1 (l.take m) (enth l k)) ∧ Hid (post.length ≤ m + 1)) (fun _ i _ => n - (RowKit.intOf i).toNat)
          case atStart => exact ⟨0, [_], by omega, rfl, hI2, q1, q2, hid rfl, hid (by simp)⟩
          case round =>
            clear hI2 hrun q1 q2
            obtain ⟨m, post, hm1, rfl, hI, r1, r2, hpost, hpl2⟩ := hrel
            have hX3 := Ext.refl wr
            have hW := hI.ext
            by_cases hlt2 : m < n
            · have hI3 := hI.go (Ext.alloc hX3 (.cells #[.int .i64 (enth l m).kind, .int .i64 (enth l m).from_, .int .i64 (enth l m).to_, .int .i64 (enth l m).i, .int .i64 (enth l m).j] 24))
              have hstep := hid (twoE_step 1 l (enth l k) (m := m) (by rw [hl.out]; exact hlt2))
              go_wp2
              go_roundw
              case rel => first
                | exact ⟨m + 1, post, by omega, by go_num, hI3, r1.alloc _, r2.alloc _, hid (by rw [hstep.out, if_neg (by simp), List.append_nil]; exact hpost.out), hid (by have := hpl2.out; omega)⟩
                | exact ⟨_, .pointer (some ⟨wr.heap.size, 0, none⟩), .int .i64 ((m : Int) + 1), ⟨m + 1, by omega, by go_num, post, hI3, r1.alloc _, r2.alloc _, hid (by rw [hstep.out, if_neg (by simp), List.append_nil]; exact hpost.out), hid (by have := hpl2.out; omega)⟩, rfl, rfl, rfl⟩
              case measure => simp [RowKit.intOf]; omega
            · have hmn : Hid (l.take m = l) := hid (List.take_of_length_le (by rw [hl.out]; omega))
              go_wp2
              refine ⟨⟨k + 1, pre ++ post, by omega, by go_num, hI, hid ?_, hid ?_⟩, by simp [RowKit.intOf]; omega⟩
              · rw [List.map_append, hr.out, hst.out, hyes.out, hpost.out, hmn.out]
              · have := hpl.out; have := hpl2.out; rw [Nat.succ_mul, List.length_append]; omega
        · go_wp2
          obtain ⟨wo, hwo⟩ : ∃ wo, wo = wr := ⟨_, rfl⟩
          subst hwo
          go_loopw [5, 41] (fun out i W => ∃ (m : Nat) (post : List BE), m ≤ n ∧ i = .int .i64 m ∧ SInv w out (pre ++ post) W ∧ Blk W wo.heap.size 24 #[.int .i64 (enth l k).kind, .int .i64 (enth l k).from_, .int .i64 (enth l k).to_, .int .i64 (enth l k).i, .int .i64 (enth l k).j] ∧ Blk W (wo.heap.size + 1) 24 #[.int .i64 (enth l k).kind, .int .i64 (enth l k).from_, .int .i64 (enth l k).to_, .int .i64 (enth l k).i, .int .i64 (enth l k).j] ∧ Hid (post.map BE.t = ⟨(enth l k).from_, (enth l k).to_, [enth l k]⟩ :: twoE 2 (l.take m) (enth l k)) ∧ Hid (post.length ≤ m + 1)) (fun _ i _ => n - (RowKit.intOf i).toNat)
          case atStart => exact ⟨0, [_], by omega, rfl, hI2, q1, q2, hid rfl, hid (by simp)⟩
          case round =>
            clear hI2 hrun q1 q2
            obtain ⟨m, post, hm1, rfl, hI, r1, r2, hpost, hpl2⟩ := hrel
            have hX3 := Ext.refl wr
            have hW := hI.ext
            by_cases hlt2 : m < n
            · by_cases hk2 : (enth l m).kind = 3
              · by_cases hf2 : (enth l m).from_ = (enth l k).to_
                · have c2 := h0 wr m hI.ext hlt2
                  have c3 := h1 wr m hI.ext hlt2
                  rw [hk2] at c2
                  rw [hf2] at c3
                  have hstep := hid (twoE_step 2 l (enth l k) (m := m) (by rw [hl.out]; exact hlt2))
                  have hfm : Hid (enth l m = ⟨3, (enth l k).to_, (enth l m).to_, (enth l m).i, (enth l m).j⟩) := hid (by rw [← hk2, ← hf2])
                  have hyes2 : Hid ((enth l m).kind = 3 ∧ (enth l m).from_ = (enth l k).to_) := hid ⟨hk2, hf2⟩
                  have e1 := r1.alloc (.cells #[.int .i64 3, .int .i64 (enth l k).to_, .int .i64 (enth l m).to_, .int .i64 (enth l m).i, .int .i64 (enth l m).j] 24)
                  have e12 := (e1.cell 2).trans (show _ = some (Value.int .i64 (enth l k).to_) from rfl)
                  have e11 := (e1.cell 1).trans (show _ = some (Value.int .i64 (enth l k).from_) from rfl)
                  have hA1 := Ext.alloc hX3 (.cells #[.int .i64 3, .int .i64 (enth l k).to_, .int .i64 (enth l m).to_, .int .i64 (enth l m).i, .int .i64 (enth l m).j] 24)
                  have hA3 := (Ext.alloc hA1 (.cells #[.int .i64 3, .int .i64 (enth l k).to_, .int .i64 (enth l m).to_, .int .i64 (enth l m).i, .int .i64 (enth l m).j] 24)).drew
                  have hI3 := hI.go hA3
                  have s1 := ((r1.alloc (.cells #[.int .i64 3, .int .i64 (enth l k).to_, .int .i64 (enth l m).to_, .int .i64 (enth l m).i, .int .i64 (enth l m).j] 24)).alloc (.cells #[.int .i64 3, .int .i64 (enth l k).to_, .int .i64 (enth l m).to_, .int .i64 (enth l m).i, .int .i64 (enth l m).j] 24)).drew
                  have s2 := ((r2.alloc (.cells #[.int .i64 3, .int .i64 (enth l k).to_, .int .i64 (enth l m).to_, .int .i64 (enth l m).i, .int .i64 (enth l m).j] 24)).alloc (.cells #[.int .i64 3, .int .i64 (enth l k).to_, .int .i64 (enth l m).to_, .int .i64 (enth l m).i, .int .i64 (enth l m).j] 24)).drew
                  have s3 := (Blk.new (wr.alloc (.cells #[.int .i64 3, .int .i64 (enth l k).to_, .int .i64 (enth l m).to_, .int .i64 (enth l m).i, .int .i64 (enth l m).j] 24)) 24 #[.int .i64 3, .int .i64 (enth l k).to_, .int .i64 (enth l m).to_, .int .i64 (enth l m).i, .int .i64 (enth l m).j]).drew
                  simp only [World.size_alloc] at s3
                  have s0 := ((Blk.new wr 24 #[.int .i64 3, .int .i64 (enth l k).to_, .int .i64 (enth l m).to_, .int .i64 (enth l m).i, .int .i64 (enth l m).j]).alloc (.cells #[.int .i64 3, .int .i64 (enth l k).to_, .int .i64 (enth l m).to_, .int .i64 (enth l m).i, .int .i64 (enth l m).j] 24)).drew
                  have s11 := (s1.cell 1).trans (show _ = some (Value.int .i64 (enth l k).from_) from rfl)
                  have s02 := (s0.cell 2).trans (show _ = some (Value.int .i64 (enth l m).to_) from rfl)
                  have e11d := (e1.drew.cell 1).trans (show _ = some (Value.int .i64 (enth l k).from_) from rfl)
                  have hle := hI.ext.le
                  have hmul0 := hmul.out
                  have hpl3 := hpl2.out
                  go_wp2
                  go_region_law (go_simp; refine (s_put _ (wo.heap.size + 1) (wr.heap.size + 1) (enth l k) ⟨3, (enth l k).to_, (enth l m).to_, (enth l m).i, (enth l m).j⟩ s2.row s3.row).mono ?_; rintro e w5 ⟨A5, m5, c5, rfl, hown5, hx5⟩; have hI5 := hI3.go hx5; have m1 := ((s1.ext hx5).cell 1).trans (show _ = some (Value.int .i64 (enth l k).from_) from rfl); have m0 := ((s0.ext hx5).cell 2).trans (show _ = some (Value.int .i64 (enth l m).to_) from rfl); have hl5 := hx5.le; simp at hl5; have hh5 : Held w.heap.size w5 ⟨⟨(enth l k).from_, (enth l m).to_, A5, m5, c5⟩, ⟨(enth l k).from_, (enth l m).to_, [enth l k, ⟨3, (enth l k).to_, (enth l m).to_, (enth l m).i, (enth l m).j⟩]⟩⟩ := ⟨rfl, rfl, own_base hown5 (by simp; omega)⟩; obtain ⟨v6, w6, hrun6, hown6, hgrow6, hat6⟩ := app_stp hI5.out (by omega) (by simp; omega) 34 ⟨(enth l k).from_, (enth l m).to_, A5, m5, c5⟩; have hI6 := hI5.put _ hh5 hgrow6 hown6; have t1 := (s1.ext hx5).grown hgrow6 (blk_ne_row (s1.ext hx5) hI5.out (by decide)); have t2 := (s2.ext hx5).grown hgrow6 (blk_ne_row (s2.ext hx5) hI5.out (by decide)))
                  all_goals
                    go_wp2
                    go_roundw
                    case rel =>
                      exact ⟨v6, .pointer (some ⟨wr.heap.size, 0, none⟩), .int .i64 ((m : Int) + 1), ⟨m + 1, by omega, by go_num, post ++ [_], by rw [← List.append_assoc]; exact hI6, hid (by rw [List.map_append, hpost.out, hstep.out, if_pos ⟨by trivial, hyes2.out⟩, List.cons_append]; exact congrArg (fun z => _ :: (twoE 2 (l.take m) (enth l k) ++ [SE.mk (enth l k).from_ (enth l m).to_ [enth l k, z]])) hfm.out.symm), hid (by rw [List.length_append, List.length_singleton]; omega)⟩, rfl, rfl, rfl⟩
                    case measure => simp [RowKit.intOf]; omega
                · have c2 := h0 wr m hI.ext hlt2
                  have hI3 := hI.go (Ext.alloc hX3 (.cells #[.int .i64 3, .int .i64 (enth l m).from_, .int .i64 (enth l m).to_, .int .i64 (enth l m).i, .int .i64 (enth l m).j] 24))
                  have hstep := hid (twoE_step 2 l (enth l k) (m := m) (by rw [hl.out]; exact hlt2))
                  have hno : Hid (¬ (2 : Int) = 2 ∨ ¬ ((enth l m).kind = 3 ∧ (enth l m).from_ = (enth l k).to_)) := hid (.inr fun h => hf2 h.2)
                  have e1 := r1.alloc (.cells #[.int .i64 3, .int .i64 (enth l m).from_, .int .i64 (enth l m).to_, .int .i64 (enth l m).i, .int .i64 (enth l m).j] 24)
                  have e12 := (e1.cell 2).trans (show _ = some (Value.int .i64 (enth l k).to_) from rfl)
                  rw [hk2] at c2
                  go_wp2
                  go_roundw
                  case rel => exact ⟨m + 1, post, by omega, by go_num, hI3, r1.alloc _, r2.alloc _, hid (by rw [hstep.out, if_neg (by have := hno.out; omega), List.append_nil]; exact hpost.out), hid (by have := hpl2.out; omega)⟩
                  case measure => simp [RowKit.intOf]; omega
              · have c2 := h0 wr m hI.ext hlt2
                have hI3 := hI.go (Ext.alloc hX3 (.cells #[.int .i64 (enth l m).kind, .int .i64 (enth l m).from_, .int .i64 (enth l m).to_, .int .i64 (enth l m).i, .int .i64 (enth l m).j] 24))
                have hstep := hid (twoE_step 2 l (enth l k) (m := m) (by rw [hl.out]; exact hlt2))
                have hno : Hid (¬ (2 : Int) = 2 ∨ ¬ ((enth l m).kind = 3 ∧ (enth l m).from_ = (enth l k).to_)) := hid (.inr fun h => hk2 h.1)
                go_wp2
                go_roundw
                case rel => exact ⟨_, .pointer (some ⟨wr.heap.size, 0, none⟩), .int .i64 ((m : Int) + 1), ⟨m + 1, by omega, by go_num, post, hI3, r1.alloc _, r2.alloc _, hid (by rw [hstep.out, if_neg (by have := hno.out; omega), List.append_nil]; exact hpost.out), hid (by have := hpl2.out; omega)⟩, rfl, rfl, rfl⟩
                case measure => simp [RowKit.intOf]; omega
            · have hmn : Hid (l.take m = l) := hid (List.take_of_length_le (by rw [hl.out]; omega))
              go_wp2
              refine ⟨⟨k + 1, pre ++ post, by omega, by go_num, hI, hid ?_, hid ?_⟩, by simp [RowKit.intOf]; omega⟩
              · rw [List.map_append, hr.out, hst.out, hyes.out, hpost.out, hmn.out]
              · have := hpl.out; have := hpl2.out; rw [Nat.succ_mul, List.length_append]; omega
      · have hno : Hid (oneE lev l (enth l k) = []) := hid (if_neg hc)
        have hI2 := hI.go (Ext.alloc hX1 (.cells #[.int .i64 (enth l k).kind, .int .i64 (enth l k).from_, .int .i64 (enth l k).to_, .int .i64 (enth l k).i, .int .i64 (enth l k).j] 24))
        by_cases hl1 : lev = 1
        · exact absurd (.inl hl1) hc
        · by_cases hl2 : lev = 2
          · subst hl2
            have hk3 : (enth l k).kind = 3 := Decidable.byContradiction fun h => hc (.inr ⟨rfl, h⟩)
            clear hc
            rw [hk3] at hI2
            go_wp2
            go_roundw
            case rel => exact ⟨k + 1, pre, by omega, by go_num, hI2, hid (by rw [hst.out, hno.out, List.append_nil]; exact hr.out), hid (by have := hpl.out; rw [Nat.succ_mul]; omega)⟩
            case measure => simp [RowKit.intOf]; omega
          · clear hc
            go_wp2
            go_roundw
            case rel => exact ⟨k + 1, pre, by omega, by go_num, hI2, hid (by rw [hst.out, hno.out, List.append_nil]; exact hr.out), hid (by have := hpl.out; rw [Nat.succ_mul]; omega)⟩
            case measure => simp [RowKit.intOf]; omega
    · have hkn : Hid (l.take k = l) := hid (List.take_of_length_le (by rw [hl.out]; omega))
      go_wp2
      go_ret
      exact ⟨_, pre, rfl, by rw [← hkn.out]; rw [hkn.out]; rw [hkn.out] at hr; exact hr.out, hI⟩
end
end Go.Proofs.YtebjiimlcnmfpaaGreat
