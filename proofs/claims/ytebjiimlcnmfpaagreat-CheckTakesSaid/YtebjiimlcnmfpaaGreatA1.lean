/-
  Words for memory; rows of numbers
-/
import Derived.WalkKit
import Derived.KernelRfl
import Derived.Lib.Hide
import Derived.RowKit
import Derived.Deep.Draws
import Derived.Deep.QuietTactic
import Derived.BigQuiet
import Derived.WideShapes
import Derived.RangeFuncNested
import Derived.RangeFuncBound
import Derived.RangeFuncCalls
import Derived.RangeFuncLeaves
import Derived.Shelf.Abstract
import Derived.Shelf.RegionOpen
import Derived.OwnWalkIn
import Derived.TacticsInMore
import Derived.LoopNIn
import Derived.LoopIn
import Derived.BigRegionIn
import Derived.Deep.RegionWith
import Derived.Deep.RegionHeld3
import Derived.Deep.DeepCutAuto
import Derived.Deep.LoopGhost
import Derived.Deep.RegionLaw
import Derived.StillTailTactics
import Derived.Deep.OwnRows
import Derived.Laws.IdiomCopy
/-! Words for memory that every walk of this seat uses: a world that goes on from another one, slices that read as lists. -/
set_option linter.unusedVariables false
set_option linter.unusedSimpArgs false
namespace Go.Proofs.YtebjiimlcnmfpaaGreat
section
open Go Go.RowKit Go.Shelf

/-! ### worlds that go on -/
/-- Of what was there in w nothing has turned in w'. -/
def Ext (w w' : World) : Prop := Below w.heap.size w w'
theorem Ext.refl (w : World) : Ext w w := Below.refl _ _
theorem Ext.trans {a b c : World} (h : Ext a b) (k : Ext b c) : Ext a c := Below.trans h (Below.mono k h.size)
theorem Ext.alloc {w W : World} (h : Ext w W) (o : Obj) : Ext w (W.alloc o) := Below.alloc h h.size o
theorem Ext.drew {w W : World} (h : Ext w W) : Ext w W.drew := Below.drew h
theorem Ext.drewN {w W : World} (h : Ext w W) (n : Nat) : Ext w (W.drewN n) := ⟨h.os, h.tape, h.output, h.size, h.block⟩
theorem Ext.alloc2 {w W : World} (h : Ext w W) (o o' : Obj) : Ext w ((W.alloc o).alloc o') := (h.alloc o).alloc o'
theorem Ext.alloc3 {w W : World} (h : Ext w W) (o o' o'' : Obj) : Ext w (((W.alloc o).alloc o').alloc o'') := (h.alloc2 o o').alloc o''
theorem Ext.alloc4 {w W : World} (h : Ext w W) (o o' o'' p : Obj) : Ext w ((((W.alloc o).alloc o').alloc o'').alloc p) := (h.alloc3 o o' o'').alloc p
theorem Ext.drewN_alloc {w W : World} (h : Ext w W) (o : Obj) (n : Nat) : Ext w ((W.alloc o).drewN n) := (h.alloc o).drewN n
theorem Ext.drewN_alloc2 {w W : World} (h : Ext w W) (o o' : Obj) (n : Nat) : Ext w (((W.alloc o).alloc o').drewN n) := (h.alloc2 o o').drewN n
theorem Ext.drew_alloc {w W : World} (h : Ext w W) (o : Obj) : Ext w (W.alloc o).drew := (h.alloc o).drew
theorem Ext.setCell {w W : World} {p : Addr} (hp : w.heap.size ≤ p.block) (h : Ext w W) (v : Value) : Ext w (W.setCell p v) := Below.setCell h hp v
theorem Ext.grown {a w w' : World} {row : Option Nat} (h : Ext a w) (hg : w.grownBy w' row) (hr : ∀ k, row = some k → a.heap.size ≤ k) : Ext a w' := Below.grown h hg h.size hr
theorem Ext.le {w W : World} (h : Ext w W) : w.heap.size ≤ W.heap.size := h.size
theorem Ext.cell {w W : World} (h : Ext w W) {p : Addr} {v : Value} (hc : w.cell? p = some v) : W.cell? p = some v := by
  have hlt : p.block < w.heap.size := by
    rcases Nat.lt_or_ge p.block w.heap.size with hlt | hge
    · exact hlt
    · simp [World.cell?, Array.getElem?_eq_none hge] at hc
  exact (Below.cell h hlt).trans hc
theorem Ext.block {w W : World} (h : Ext w W) {k : Nat} {o : Obj} (hc : w.heap[k]? = some o) : W.heap[k]? = some o := by
  have hlt : k < w.heap.size := (Array.getElem?_eq_some_iff.1 hc).1
  exact (Below.block h k hlt).trans hc

/-- A name for a fact that the walk is not to use as a rule. -/
theorem hid {p : Prop} (h : p) : Hid p := h

/-! ### a region that draws its order, whose operations read, and whose calls leave a world that goes on -/
structure After (w : World) where
  v : World
  h : Ext w v
instance (w : World) : Inhabited (After w) := ⟨⟨w, Ext.refl w⟩⟩
section
variable {P : Program}
theorem wp_region_ext_lit {id : Nat} {Q : Exit → Act → World → Prop} {a : Act} {w : World} {l : List Oper} (hm : P.follows .mixedOrders = true) (hB : Region.lexB .any l.toArray = true)
    (h : wpQuiet P l.toArray (fun V => ∃ x : After w, V = x.v) (fun a' => ∀ w', (∃ x : After w, w' = x.v) → Q .normal a' w') l a) : (Code.region id l.toArray true).wp P Q a w :=
  wp_region_quiet (C := fun V => ∃ x : After w, V = x.v) hm hB ⟨⟨_, (Ext.refl w).drew⟩, rfl⟩ (by simpa using h)
theorem Calls.quietX {f : FuncId} {args : Array Value} {W : World} {x : After W} {v : Value}
    (h : Calls P f args x.v fun e w' => e = .returned v ∧ Ext x.v w') : Calls P f args x.v fun e w'' => e = .returned v ∧ ∃ y : After W, w'' = y.v :=
  h.mono fun _ w' ⟨he, hm⟩ => ⟨he, ⟨w', x.h.trans hm⟩, rfl⟩
theorem Calls.quietX_same {f : FuncId} {args : Array Value} {W : World} {x : After W} {v : Value}
    (h : Calls P f args x.v fun e w' => e = .returned v ∧ w' = x.v) : Calls P f args x.v fun e w'' => e = .returned v ∧ ∃ y : After W, w'' = y.v :=
  h.mono fun _ w' ⟨he, hm⟩ => ⟨he, x, hm⟩
end

/-! ### a scope (a label stands in it; nothing jumps to it), within a fence -/
section
variable {F : Fence} {n : Nat} {P : Program} {b : Frame} {a : Act} {k : List Item} {cs : List Frame} {w : World} {Q : Exit → Act → World → Prop}
theorem stepR_scope {c : Code} : step P (lone (b.atR a (.code (.scope c) :: k)) cs w) = .next (lone (b.atR a (.code c :: .inScope c :: k)) cs w) :=
  step_lone_go (by simp [stepG, stepG.exec, Frame.atR])
theorem stepR_inScope {c : Code} : step P (lone (b.atR a (.inScope c :: k)) cs w) = .next (lone (b.atR a k) cs w) :=
  step_lone_go (by simp [stepG, stepG.exec, Frame.atR])
theorem wpIn_scope_straight {c : Code} (h : c.wpIn F n P (Exit.noGoto Q) a w) : (Code.scope c).wpIn F n P Q a w := by
  intro b k cs hro hb hr
  have h0 : (lone (b.atR a (.code (.scope c) :: k)) cs w).fenced P F := fenced_calm hb hr rfl
  obtain ⟨e, a₁, w₁, hq, harr⟩ := h b (.inScope c :: k) cs hro hb hr
  cases e with
  | normal => exact ⟨.normal, a₁, w₁, hq, .head h0 stepR_scope (StepsIn.trans harr (.one (fenced_calm hb hr rfl) stepR_inScope))⟩
  | exit id =>
    have hx : exitTo id (.inScope c :: k) = exitTo id k := by simp [exitTo]
    exact ⟨.exit id, a₁, w₁, hq, fun k' hk => .head h0 stepR_scope (harr.1 k' (by rw [hx]; exact hk)),
      fun hr' hk => let ⟨k₁, h1, h2⟩ := harr.2 hr' (by rw [hx]; exact hk); ⟨k₁, h1, .head h0 stepR_scope h2⟩⟩
  | goto l => exact hq.elim
  | ret => exact ⟨_, a₁, w₁, hq, .of_steps (.one h0 stepR_scope) harr⟩
  | panic ch => exact ⟨_, a₁, w₁, hq, .of_steps (.one h0 stepR_scope) harr⟩
  | outgrown => exact ⟨_, a₁, w₁, hq, .of_steps (.one h0 stepR_scope) harr⟩
end

/-! ### kinds: how a value of a Lean type lies in cells -/
structure Kd (α : Type) where
  sz : Nat
  z : α
  R : World → α → List Value → Prop
  hlen : ∀ {w x cs}, R w x cs → cs.length = sz
  mono : ∀ {w w' x cs}, Ext w w' → R w x cs → R w' x cs

/-- A kind without memory of its own. -/
def Kd.flat {α : Type} (sz : Nat) (z : α) (c : α → List Value) (h : ∀ x, (c x).length = sz) : Kd α where
  sz := sz
  z := z
  R := fun _ x cs => cs = c x
  hlen := by rintro _ x _ rfl; exact h x
  mono := fun _ h => h

/-- '.slice A n cap' reads as l, in w and in all worlds that go on from it. -/
structure Sl {α : Type} (k : Kd α) (w : World) (A : Option Addr) (n : Nat) (l : List α) : Prop where
  len : l.length = n
  big : n ≤ 140737488351232
  get : 0 < n → ∃ b o, A = some ⟨b, o, none⟩ ∧ ∀ i, i < n → ∃ cs, k.R w (l.getD i k.z) cs ∧ ∀ j u, cs[j]? = some u → w.cell? ⟨b, o + i * k.sz + j, none⟩ = some u

theorem Sl.nil {α : Type} (k : Kd α) (w : World) (A : Option Addr) : Sl k w A 0 [] := ⟨rfl, by omega, fun h => absurd h (by omega)⟩
theorem Sl.ext {α : Type} {k : Kd α} {w W : World} {A : Option Addr} {n : Nat} {l : List α} (h : Sl k w A n l) (x : Ext w W) : Sl k W A n l :=
  ⟨h.len, h.big, fun hn => by
    obtain ⟨b, o, e, hg⟩ := h.get hn
    exact ⟨b, o, e, fun i hi => by
      obtain ⟨cs, hR, hc⟩ := hg i hi
      exact ⟨cs, k.mono x hR, fun j u hu => x.cell (hc j u hu)⟩⟩⟩
/-- A beginning of it: 'xs[:m]'. -/
theorem Sl.take {α : Type} {k : Kd α} {w : World} {A : Option Addr} {n : Nat} {l : List α} (h : Sl k w A n l) {m : Nat} (hm : m ≤ n) : Sl k w A m (l.take m) :=
  ⟨by have := h.len; rw [List.length_take]; omega, by have := h.big; omega, fun hn => by
    obtain ⟨b, o, e, hg⟩ := h.get (by omega)
    refine ⟨b, o, e, fun i hi => ?_⟩
    obtain ⟨cs, hR, hc⟩ := hg i (by omega)
    refine ⟨cs, ?_, hc⟩
    have : (l.take m).getD i k.z = l.getD i k.z := by
      simp only [List.getD_eq_getElem?_getD, List.getElem?_take, hi, if_true]
    rwa [this]⟩

theorem flatMap_get {α : Type} (sz : Nat) (z : α) (c : α → List Value) (hc : ∀ x, (c x).length = sz) : ∀ (l : List α) (i j : Nat), i < l.length → j < sz → (l.flatMap c)[i * sz + j]? = (c (l.getD i z))[j]?
  | [], i, _, h, _ => by simp at h
  | x :: r, 0, j, _, hj => by
    rw [List.flatMap_cons, Nat.zero_mul, Nat.zero_add, List.getElem?_append_left (by rw [hc]; exact hj)]
    rfl
  | x :: r, i + 1, j, h, hj => by
    have ih := flatMap_get sz z c hc r i j (by simpa using h) hj
    rw [List.flatMap_cons, List.getElem?_append_right (by rw [hc, Nat.succ_mul]; omega), hc]
    rw [show (i + 1) * sz + j - sz = i * sz + j by rw [Nat.succ_mul]; omega, ih]
    simp [List.getD_eq_getElem?_getD]
theorem flatMap_len {α : Type} (sz : Nat) (c : α → List Value) (hc : ∀ x, (c x).length = sz) (l : List α) : (l.flatMap c).length = l.length * sz := by
  induction l with
  | nil => simp
  | cons x r ih => rw [List.flatMap_cons, List.length_append, hc, ih, List.length_cons, Nat.succ_mul]; omega

theorem own_ext {w w1 : World} {base : Nat} {e : TypeId} {sz : Nat} {v : Value} {n : Nat} {xs : List Value} (h : w.ownsRow base e sz v n xs) (_hb : base ≤ w.heap.size) (x : Ext w w1) : w1.ownsRow base e sz v n xs := by
  obtain ⟨h1, h2⟩ := h
  refine ⟨h1, ?_⟩
  rcases h2 with h2 | ⟨g, cap, cur, hv, hg, hh, r⟩
  · exact .inl h2
  · exact .inr ⟨g, cap, cur, hv, hg, x.block hh, r⟩

theorem own_block {w : World} {base : Nat} {e : TypeId} {sz : Nat} {v : Value} {n : Nat} {xs : List Value} (h : w.ownsRow base e sz v n xs) : ∀ k, v.ownBlock = some k → base ≤ k := by
  intro k hk
  obtain ⟨h1, h2⟩ := h
  rcases h2 with ⟨rfl, _⟩ | ⟨g, cap, cur, rfl, hg, hh, r⟩
  · cases hk
  · cases hk; exact hg
theorem new_cells {w : World} {t : TypeId} {xs : List Value} {b : Nat} (hb : b = w.heap.size) (j : Nat) (u : Value) (h : xs[j]? = some u) : (w.alloc (.cells xs.toArray t)).cell? ((⟨b, 0, none⟩ : Addr).add j) = some u := by
  subst hb
  have hn : (w.alloc (.cells xs.toArray t)).heap[w.heap.size]? = some (.cells xs.toArray t) := World.alloc_heap_new w _
  unfold Addr.add
  by_cases hj : j = 0
  · subst hj
    simp only [if_true, World.cell?, hn]
    simpa using h
  · rw [if_neg hj]
    simp only [World.cell?, hn]
    simpa using h

/-- A row of the call's own reads as its list. -/
theorem sl_of_own {α : Type} {sz : Nat} {z : α} {c : α → List Value} {hc : ∀ x, (c x).length = sz} {w : World} {base : Nat} {e : TypeId} {v : Value} {l : List α} (h : w.ownsRow base e sz v l.length (l.flatMap c)) (hb : l.length ≤ 140737488351232) :
    ∃ A cap, v = .slice A l.length cap ∧ Sl (Kd.flat sz z c hc) w A l.length l := by
  obtain ⟨h1, h2⟩ := h
  rcases h2 with ⟨rfl, h0⟩ | ⟨g, cap, cur, rfl, hg, hh, hn, hm, hs, ht⟩
  · refine ⟨none, 0, by rw [h0], rfl, hb, fun hn => by omega⟩
  · refine ⟨some ⟨g, 0, none⟩, cap, rfl, rfl, hb, fun _ => ⟨g, 0, rfl, fun i hi => ⟨c (l.getD i z), rfl, fun j u hu => ?_⟩⟩⟩
    have hj : j < sz := by
      have := (List.getElem?_eq_some_iff.1 hu).1
      rwa [hc] at this
    have hlt : i * sz + j < l.length * sz := by
      have : (i + 1) * sz ≤ l.length * sz := Nat.mul_le_mul_right sz hi
      rw [Nat.succ_mul] at this
      omega
    have hx := flatMap_get sz z c hc l i j hi hj
    rw [hu, ← ht, List.getElem?_take, if_pos hlt] at hx
    show w.cell? ⟨g, 0 + i * sz + j, none⟩ = some u
    rw [Nat.zero_add]
    simp only [World.cell?, hh]
    simpa using hx

/-- Dropping one: the round of a loop over a list. -/
theorem drop_step {α : Type} (l : List α) (z : α) {k : Nat} (h : k < l.length) : l.drop k = l.getD k z :: l.drop (k + 1) := by
  rw [List.drop_eq_getElem_cons h]
  simp [List.getD_eq_getElem?_getD, h]
theorem drop_end {α : Type} (l : List α) {k : Nat} (h : l.length ≤ k) : l.drop k = [] := List.drop_eq_nil_of_le h

theorem toList_inj {a b : ByteArray} : a.toList = b.toList ↔ a = b := by
  constructor
  · intro h
    rw [ByteArray.toList_eq, ByteArray.toList_eq] at h
    exact WideShapes.bytes_inj h
  · intro h; rw [h]
theorem toList_beq (a b : ByteArray) : (a.toList == b.toList) = decide (a = b) := by
  rw [Bool.eq_iff_iff]
  simp [toList_inj]
theorem le0_false {a : Int} (h : a < 0) : (0 ≤ a) = False := by simp; omega
theorem lt0_false {a : Int} (h : 0 ≤ a) : (a < 0) = False := by simp; omega
theorem ret_int {k : IntKind} {a b : Int} (h : a = b) : Ending.returned (.int k a) = .returned (.int k b) := by rw [h]
theorem ret_bool {a b : Bool} (h : a = b) : Ending.returned (.bool a) = .returned (.bool b) := by rw [h]

/-! ### a block that is known whole -/
def Blk (w : World) (g : Nat) (t : TypeId) (cs : Array Value) : Prop := w.heap[g]? = some (.cells cs t (0, 0))
section
variable {w w' : World} {g : Nat} {t : TypeId} {cs : Array Value}
theorem Blk.lt (h : Blk w g t cs) : g < w.heap.size := (Array.getElem?_eq_some_iff.1 h).1
theorem Blk.cell (h : Blk w g t cs) (i : Nat) : w.cell? ⟨g, i, none⟩ = cs[i]? := by unfold Blk at h; simp [World.cell?, h]
theorem Blk.frozen (h : Blk w g t cs) (i : Nat) : w.frozen? ⟨g, i, none⟩ = false := by unfold Blk at h; simp [World.frozen?, h]
theorem Blk.new (w : World) (t : TypeId) (cs : Array Value) : Blk (w.alloc (.cells cs t)) w.heap.size t cs := World.alloc_heap_new w _
theorem Blk.drew (h : Blk w g t cs) : Blk w.drew g t cs := h
theorem Blk.drewN (h : Blk w g t cs) (n : Nat) : Blk (w.drewN n) g t cs := h
theorem Blk.alloc (h : Blk w g t cs) (o : Obj) : Blk (w.alloc o) g t cs := (Below.heap_alloc w o g h.lt).trans h
theorem Blk.set (h : Blk w g t cs) (i : Nat) (u : Value) : Blk (w.setCell ⟨g, i, none⟩ u) g t (cs.setIfInBounds i u) := by
  unfold Blk at h ⊢
  simp [World.setCell, Array.getElem?_modify, h]
theorem Blk.far (h : Blk w g t cs) {p : Addr} (hp : g ≠ p.block) (u : Value) : Blk (w.setCell p u) g t cs := (Below.heap_setCell w p u g hp).trans h
theorem Blk.ext (h : Blk w g t cs) (x : Ext w w') : Blk w' g t cs := x.block h
theorem Blk.grown {row : Option Nat} (h : Blk w g t cs) (hb : w.grownBy w' row) (hg : some g ≠ row) : Blk w' g t cs := (hb.block g h.lt hg).trans h
end
theorem blk_own {β : Type} (B : Nat) (t : TypeId) (f : β → Array Value) : Own (fun s W => Blk W B t (f s)) := fun s X Y row hs hg hrow =>
  Blk.grown hs hg (fun e' => by obtain ⟨o, ho, hc⟩ := hrow B e'.symm; rw [show X.heap[B]? = _ from hs] at ho; cases ho; cases hc)
theorem own_and {β : Type} {I I' : β → World → Prop} (h : Own I) (h' : Own I') : Own (fun s W => I s W ∧ I' s W) := fun s W W' row hs hg hr => ⟨h s W W' row hs.1 hg hr, h' s W W' row hs.2 hg hr⟩
theorem ownFrom_ext {β : Type} {w : World} {B : Nat} (hB : w.heap.size ≤ B) : OwnFrom B (fun (_ : β) W => Ext w W) := ownFrom_below (Nat.le_refl _) hB
theorem ownFrom_size {β : Type} (m B : Nat) : OwnFrom B (fun (_ : β) (W : World) => m ≤ W.heap.size) := fun _ W W' _ hs hg _ => Nat.le_trans hs hg.size
theorem Blk.cell0 {w : World} {g : Nat} {t : TypeId} {v : Value} (h : Blk w g t #[v]) : w.cell? ⟨g, 0, none⟩ = some v := h.cell 0
theorem Blk.cells4 {w : World} {g : Nat} {t : TypeId} {a b c d : Value} (h : Blk w g t #[a, b, c, d]) : w.cell? ⟨g, 0, none⟩ = some a ∧ w.cell? ⟨g, 1, none⟩ = some b ∧ w.cell? ⟨g, 2, none⟩ = some c ∧ w.cell? ⟨g, 3, none⟩ = some d := ⟨h.cell 0, h.cell 1, h.cell 2, h.cell 3⟩
theorem Blk.cells3 {w : World} {g : Nat} {t : TypeId} {a b c : Value} (h : Blk w g t #[a, b, c]) : w.cell? ⟨g, 0, none⟩ = some a ∧ w.cell? ⟨g, 1, none⟩ = some b ∧ w.cell? ⟨g, 2, none⟩ = some c := ⟨h.cell 0, h.cell 1, h.cell 2⟩
theorem Blk.set0 {w : World} {g : Nat} {t : TypeId} {v : Value} (h : Blk w g t #[v]) (u : Value) : Blk (w.setCell ⟨g, 0, none⟩ u) g t #[u] := h.set 0 u

/-- WHAT A ROUND KEEPS: what lay below the world w, and the iterator's own boxes. -/
def KpB (w : World) (bs : List Nat) (A B : World) : Prop := Below w.heap.size A B ∧ ∀ b ∈ bs, B.heap[b]? = A.heap[b]?
theorem kpB_t {w : World} {bs : List Nat} {A B C : World} (h : KpB w bs A B) (k : KpB w bs B C) : KpB w bs A C := ⟨h.1.trans k.1, fun b hb => (k.2 b hb).trans (h.2 b hb)⟩
theorem kpB_b {w w1 : World} {bs : List Nat} (hn : w.heap.size ≤ w1.heap.size) (hbs : ∀ b ∈ bs, b < w1.heap.size) (W : World) (l : Nat) (o o' : Obj) (hl : w1.heap.size ≤ l) (h : W.heap[l]? = some o) (hc : o.isCells = false) (hw : o.isWalk = false) : KpB w bs W (W.putObj l o') :=
  ⟨belowK_b hn W l o o' hl h hc hw, fun b hb => World.putObj_heap_other (by have := hbs b hb; omega)⟩
theorem kpB_refl (w : World) (bs : List Nat) (A : World) : KpB w bs A A := ⟨Below.refl _ _, fun _ _ => rfl⟩
theorem kpB_alloc {w : World} {bs : List Nat} {A B : World} (h : KpB w bs A B) (hw : Ext w A) (hbs : ∀ b ∈ bs, b < A.heap.size) (o : Obj) : KpB w bs A (B.alloc o) :=
  ⟨Below.alloc h.1 (Nat.le_trans hw.le h.1.size) o, fun b hb => (Below.heap_alloc B o b (Nat.lt_of_lt_of_le (hbs b hb) h.1.size)).trans (h.2 b hb)⟩
theorem kpB_ext {w : World} {bs : List Nat} {A B C : World} (h : KpB w bs A B) (hw : Ext w A) (hbs : ∀ b ∈ bs, b < A.heap.size) (x : Ext B C) : KpB w bs A C :=
  ⟨h.1.trans (Below.mono x (Nat.le_trans hw.le h.1.size)), fun b hb => (Below.block x b (Nat.lt_of_lt_of_le (hbs b hb) h.1.size)).trans (h.2 b hb)⟩
theorem kpB_set {w : World} {bs : List Nat} {A B : World} (h : KpB w bs A B) {p : Addr} (hp : w.heap.size ≤ p.block) (hbs : ∀ b ∈ bs, b ≠ p.block) (u : Value) : KpB w bs A (B.setCell p u) :=
  ⟨Below.setCell h.1 hp u, fun b hb => (Below.heap_setCell B p u b (hbs b hb)).trans (h.2 b hb)⟩

theorem keepsFrom_ext {B : Nat} {X Y Z : World} (h : KeepsFrom B X Y) (x : Ext Y Z) : KeepsFrom B X Z :=
  ⟨Nat.le_trans h.size x.le, fun k o hB hk ho => x.block (h.same k o hB hk ho)⟩

/-- What an iterator hands out, one behind the other, to whatever loop whose rounds keep what it reads. -/
def Yields (P : Program) {β : Type} (g : Nat) (lb : Array Value) (encs : β → Array Value) (ys : List β) (w : World) (bs : List Nat) (wc : World) : Prop :=
  SeqStopsK Fence.wide 5 P g lb encs (KpB w bs) (fun xs => xs = ys) (fun xs => xs <+: ys) ys.length wc

end
end Go.Proofs.YtebjiimlcnmfpaaGreat

/-! The plain functions: what the program's functions compute, on lists. No program in sight. -/
namespace Go.Proofs.YtebjiimlcnmfpaaGreat
section
open Go Go.RowKit

/-! ### events -/
structure Ev where
  kind : Int
  txn : Int
  key : ByteArray
  val : ByteArray
deriving DecidableEq

def Ev.z : Ev := ⟨0, 0, ⟨#[]⟩, ⟨#[]⟩⟩
def Ev.cs (x : Ev) : List Value := [.int .i64 x.kind, .int .i64 x.txn, .string x.key, .string x.val]
def kEv : Kd Ev := Kd.flat 4 Ev.z Ev.cs (fun _ => rfl)
def nth (l : List Ev) (i : Nat) : Ev := l.getD i Ev.z
abbrev Evs (w : World) (A : Option Addr) (n : Nat) (l : List Ev) : Prop := Sl kEv w A n l

theorem Evs.opn {w : World} {A : Option Addr} {n : Nat} {l : List Ev} (h : Evs w A n l) (hn : 0 < n) : ∃ b o, A = some ⟨b, o, none⟩ ∧
    (∀ W i, Ext w W → i < n → W.cell? ⟨b, o + i * 4, none⟩ = some (.int .i64 (nth l i).kind)) ∧
    (∀ W i, Ext w W → i < n → W.cell? ⟨b, o + i * 4 + 1, none⟩ = some (.int .i64 (nth l i).txn)) ∧
    (∀ W i, Ext w W → i < n → W.cell? ⟨b, o + i * 4 + 2, none⟩ = some (.string (nth l i).key)) ∧
    (∀ W i, Ext w W → i < n → W.cell? ⟨b, o + i * 4 + 3, none⟩ = some (.string (nth l i).val)) := by
  obtain ⟨b, o, e, hg⟩ := h.get hn
  have hh : ∀ W i j u, Ext w W → i < n → (nth l i).cs[j]? = some u → W.cell? ⟨b, o + i * 4 + j, none⟩ = some u := fun W i j u hx hi hu => by
    obtain ⟨cs, hR, hc⟩ := hg i hi
    have hcs : cs = (nth l i).cs := hR
    exact hx.cell (hc j u (by rw [hcs]; exact hu))
  exact ⟨b, o, e, fun W i hx hi => hh W i 0 _ hx hi rfl, fun W i hx hi => hh W i 1 _ hx hi rfl, fun W i hx hi => hh W i 2 _ hx hi rfl, fun W i hx hi => hh W i 3 _ hx hi rfl⟩

theorem Evs.len {w : World} {A : Option Addr} {n : Nat} {l : List Ev} (h : Evs w A n l) : l.length = n := Sl.len h

/-- Does an event end its transaction? -/
def ends (x : Ev) : Bool := x.kind == 4 || x.kind == 5

/-- The place of the first one of which p holds, counted from i on; -1: none. -/
def idx {α : Type} (p : α → Bool) : List α → Int → Int
  | [], _ => -1
  | x :: r, i => if p x then i else idx p r (i + 1)
theorem idx_cons {α : Type} (p : α → Bool) (x : α) (r : List α) (i : Int) : idx p (x :: r) i = if p x then i else idx p r (i + 1) := rfl
/-- The place of the last one of which p holds; d: none. -/
def lastIdx {α : Type} (p : α → Bool) : List α → Int → Int → Int
  | [], _, d => d
  | x :: r, i, d => lastIdx p r (i + 1) (if p x then i else d)
theorem lastIdx_cons {α : Type} (p : α → Bool) (x : α) (r : List α) (i d : Int) : lastIdx p (x :: r) i d = lastIdx p r (i + 1) (if p x then i else d) := rfl

def isOf (txn : Int) (x : Ev) : Bool := x.txn == txn
def endsOf (txn : Int) (x : Ev) : Bool := x.txn == txn && ends x
def writes (key val : ByteArray) (x : Ev) : Bool := x.kind == 3 && (decide (x.key = key) && decide (x.val = val))
def wroteBy (txn : Int) (key : ByteArray) (x : Ev) : Bool := x.kind == 3 && (x.txn == txn && decide (x.key = key))

def endOf (h : List Ev) (txn : Int) : Int := idx (endsOf txn) h 0
def firstOf (h : List Ev) (txn : Int) : Int := idx (isOf txn) h 0
def writer (h : List Ev) (key val : ByteArray) : Int := idx (writes key val) h 0
def lastOf (h : List Ev) (txn : Int) (key : ByteArray) (before : Int) : Int := lastIdx (wroteBy txn key) (h.take before.toNat) 0 (-1)

/-- A transaction's events, with their places. -/
def ofs (txn : Int) (l : List Ev) : List (Ev × Nat) := l.zipIdx.filter (fun p => isOf txn p.1)
theorem ofs_step (txn : Int) (l : List Ev) {k : Nat} (h : k < l.length) : ofs txn (l.take (k + 1)) = ofs txn (l.take k) ++ (if isOf txn (nth l k) then [(nth l k, k)] else []) := by
  have e : l.take (k + 1) = l.take k ++ [nth l k] := by
    rw [List.take_succ_eq_append_getElem h]
    simp [nth, List.getD_eq_getElem?_getD, h]
  have hm : min k l.length = k := by omega
  rw [e]
  unfold ofs
  rw [List.zipIdx_append, List.filter_append]
  simp only [List.zipIdx_cons, List.zipIdx_nil, List.length_take, Nat.zero_add, hm]
  congr 1
  by_cases hp : isOf txn (nth l k) <;> simp [hp]
theorem ofs_prefix (txn : Int) (l : List Ev) {k : Nat} : ofs txn (l.take k) <+: ofs txn l := by
  obtain ⟨r, hr⟩ : ∃ r, l = l.take k ++ r := ⟨l.drop k, (List.take_append_drop k l).symm⟩
  have hz : l.zipIdx = (l.take k).zipIdx ++ r.zipIdx (l.take k).length := by
    have := List.zipIdx_append (xs := l.take k) (ys := r) (k := 0)
    rw [← hr] at this
    simpa using this
  unfold ofs
  rw [hz, List.filter_append]
  exact ⟨_, rfl⟩

theorem idx_range {α : Type} (p : α → Bool) : ∀ (l : List α) (i : Int), 0 ≤ i → idx p l i = -1 ∨ (i ≤ idx p l i ∧ idx p l i < i + l.length)
  | [], _, _ => .inl rfl
  | x :: r, i, hi => by
    rw [idx_cons]
    by_cases h : p x = true
    · rw [if_pos h]; right; simp; omega
    · rw [if_neg h]
      rcases idx_range p r (i + 1) (by omega) with h1 | h1
      · exact .inl h1
      · right; simp; omega
theorem idx_lt {α : Type} (p : α → Bool) (l : List α) : -1 ≤ idx p l 0 ∧ idx p l 0 < l.length := by
  rcases idx_range p l 0 (by omega) with h | h <;> omega

theorem lastIdx_range {α : Type} (p : α → Bool) : ∀ (l : List α) (i d : Int), 0 ≤ i → lastIdx p l i d = d ∨ (i ≤ lastIdx p l i d ∧ lastIdx p l i d < i + l.length)
  | [], _, _, _ => .inl rfl
  | x :: r, i, d, hi => by
    rw [lastIdx_cons]
    rcases lastIdx_range p r (i + 1) (if p x then i else d) (by omega) with h1 | h1
    · rw [h1]
      by_cases h : p x = true
      · rw [if_pos h]; right; simp; omega
      · rw [if_neg h]; exact .inl rfl
    · right; simp; omega

/-! ### well formed -/
def MayP (x : Ev) : Prop :=
  1 ≤ x.kind ∧ x.kind ≤ 5 ∧ 1 ≤ x.txn ∧ x.txn ≤ 32 ∧
  (((x.kind = 2 ∨ x.kind = 3) ∧ 1 ≤ x.key.size ∧ x.key.size ≤ 32 ∧ x.val.size ≤ 32 ∧ (x.kind = 2 ∨ 1 ≤ x.val.size)) ∨
   (x.kind ≠ 2 ∧ x.kind ≠ 3 ∧ x.key.size = 0 ∧ x.val.size = 0))
instance (x : Ev) : Decidable (MayP x) := by unfold MayP; exact inferInstance
def may (x : Ev) : Bool := decide (MayP x)
theorem may_iff (x : Ev) : may x = true ↔ MayP x := by unfold may; exact decide_eq_true_iff

def twice (x : Ev) (y : Ev) : Bool := y.kind == 3 && decide (y.val = x.val)
def stepErr (h : List Ev) (i : Nat) : Int :=
  if may (nth h i) = false then 1
  else if (nth h i).kind = 1 then (if 0 ≤ firstOf (h.take i) (nth h i).txn then 8 else 0)
  else if firstOf (h.take i) (nth h i).txn < 0 then 7
  else if 0 ≤ endOf (h.take i) (nth h i).txn then 9
  else if (nth h i).kind = 3 ∧ (h.take i).any (twice (nth h i)) = true then 8
  else if (nth h i).kind = 2 ∧ (nth h i).val.size ≠ 0 ∧ writer h (nth h i).key (nth h i).val < 0 then 7
  else 0
/-- The first place from i on, of m, at which f isn't 0; and what it is there. -/
def firstErr (f : Nat → Int) : Nat → Nat → Int × Int
  | 0, i => (i, 0)
  | m + 1, i => if f i = 0 then firstErr f m (i + 1) else (i, f i)
def openErr (h : List Ev) (i : Nat) : Int := if endOf h (nth h i).txn < 0 then 9 else 0
def formed (h : List Ev) : Int × Int :=
  if 256 < h.length then (0, 4)
  else if (firstErr (stepErr h) h.length 0).2 ≠ 0 then firstErr (stepErr h) h.length 0
  else ((h.length : Int), (firstErr (openErr h) h.length 0).2)

def FE (f : Nat → Int) (n k : Nat) : Prop := firstErr f (n - k) k = firstErr f n 0
theorem FE.zero (f : Nat → Int) (n : Nat) : FE f n 0 := rfl
theorem FE.step {f : Nat → Int} {n k : Nat} (h : FE f n k) (hk : k < n) (hf : f k = 0) : FE f n (k + 1) := by
  unfold FE at *
  rw [← h, show n - k = (n - (k + 1)) + 1 by omega]
  show _ = if f k = 0 then _ else _
  rw [if_pos hf]
theorem FE.hit {f : Nat → Int} {n k : Nat} (h : FE f n k) (hk : k < n) {c : Int} (hf : f k = c) (hc : c ≠ 0) : firstErr f n 0 = ((k : Int), c) := by
  unfold FE at h
  rw [← h, show n - k = (n - (k + 1)) + 1 by omega]
  show (if f k = 0 then _ else _) = _
  rw [if_neg (by rw [hf]; exact hc), hf]
theorem FE.end {f : Nat → Int} {n k : Nat} (h : FE f n k) (hk : n ≤ k) : firstErr f n 0 = ((k : Int), 0) := by
  unfold FE at h
  rw [← h, show n - k = 0 by omega]
  rfl
theorem formed_err {l : List Ev} {n : Nat} (hl : l.length = n) (hn : n ≤ 256) {k c : Int} (h : firstErr (stepErr l) n 0 = (k, c)) (hc : c ≠ 0) : formed l = (k, c) := by
  unfold formed
  rw [if_neg (by omega), hl, if_pos (by rw [h]; exact hc), h]
theorem formed_open {l : List Ev} {n : Nat} (hl : l.length = n) (hn : n ≤ 256) {k : Int} (h : firstErr (stepErr l) n 0 = (k, 0)) {j c : Int} (h2 : firstErr (openErr l) n 0 = (j, c)) : formed l = ((n : Int), c) := by
  unfold formed
  rw [if_neg (by omega), hl, if_neg (by rw [h]; simp), h2]

theorem formed_leaf {l : List Ev} {n k : Nat} {c : Int} (hl : l.length = n) (hn : n ≤ 256) (hr : FE (stepErr l) n k) (hk : k < n) (hc : c ≠ 0) (hf : stepErr l k = c) :
    Ending.returned (.tuple #[.int .i64 (k : Int), .int .i64 c]) = .returned (.tuple #[.int .i64 (formed l).1, .int .i64 (formed l).2]) := by
  rw [formed_err hl hn (hr.hit hk hf hc) hc]
theorem formed_leaf2 {l : List Ev} {n j k : Nat} {c : Int} (hl : l.length = n) (hn : n ≤ 256) (h1 : firstErr (stepErr l) n 0 = ((j : Int), 0)) (hr : FE (openErr l) n k) (hk : k < n) (hc : c ≠ 0) (hf : openErr l k = c) :
    Ending.returned (.tuple #[.int .i64 (n : Int), .int .i64 c]) = .returned (.tuple #[.int .i64 (formed l).1, .int .i64 (formed l).2]) := by
  rw [formed_open hl hn h1 (hr.hit hk hf hc)]
theorem formed_leaf3 {l : List Ev} {n j k : Nat} (hl : l.length = n) (hn : n ≤ 256) (h1 : firstErr (stepErr l) n 0 = ((j : Int), 0)) (hr : FE (openErr l) n k) (hk : n ≤ k) :
    Ending.returned (.tuple #[.int .i64 (n : Int), .int .i64 0]) = .returned (.tuple #[.int .i64 (formed l).1, .int .i64 (formed l).2]) := by
  rw [formed_open hl hn h1 (hr.end hk)]

/-! ### lives -/
structure Life where
  txn : Int
  from_ : Int
  till : Int
  com : Bool
deriving DecidableEq
def Life.z : Life := ⟨0, 0, 0, false⟩
def lifeOf (h : List Ev) (k : Nat) : Life :=
  match (ofs (nth h k).txn h).find? (fun p => ends p.1) with
  | some p => ⟨(nth h k).txn, k, p.2, p.1.kind == 4⟩
  | none => ⟨(nth h k).txn, k, h.length, false⟩

def findL (h : List Ev) (txn : Int) : Life × Bool :=
  if firstOf h txn < 0 then (Life.z, false)
  else if endOf h txn < 0 then (⟨txn, firstOf h txn, h.length, false⟩, true)
  else (⟨txn, firstOf h txn, endOf h txn, (nth h (endOf h txn).toNat).kind == 4⟩, true)
theorem find_none {α : Type} {p : α → Bool} {l : List α} (h : ∀ x ∈ l, p x = false) : l.find? p = none := by
  rw [List.find?_eq_none]; intro x hx; rw [h x hx]; simp
theorem find_prefix {α : Type} {p : α → Bool} {l q : List α} {x : α} (hp : q ++ [x] <+: l) (hq : ∀ y ∈ q, p y = false) (hx : p x = true) : l.find? p = some x := by
  obtain ⟨r, rfl⟩ := hp
  rw [List.append_assoc, List.find?_append, find_none hq]
  simp [hx]

end
end Go.Proofs.YtebjiimlcnmfpaaGreat

/-! Plain laws: what the program's functions of chapter 8 compute is what the reference's do. -/
namespace Go.Proofs.YtebjiimlcnmfpaaGreat
section
open Go Go.RowKit

theorem nth_lt {l : List Ev} {k : Nat} (h : k < l.length) : nth l k = l[k] := by simp [nth, List.getD_eq_getElem?_getD, h]

/-- The places of a row of which p holds, and what looking for the first one tells. -/
theorem idx_spec {α : Type} (p : α → Bool) : ∀ (l : List α) (i : Nat), (idx p l i = -1 ∧ ∀ x ∈ l, p x = false) ∨ ∃ k, ∃ h : k < l.length, idx p l i = ((i + k : Nat) : Int) ∧ p l[k] = true ∧ ∀ j, ∀ h : j < k, p (l[j]'(by omega)) = false
  | [], i => .inl ⟨rfl, fun _ h => by cases h⟩
  | x :: r, i => by
    rw [idx_cons]
    by_cases hp : p x = true
    · rw [if_pos hp]
      exact .inr ⟨0, by simp, by simp, hp, fun j h => by omega⟩
    · rw [if_neg hp]
      have hp' : p x = false := by simpa using hp
      rcases idx_spec p r (i + 1) with ⟨h1, h2⟩ | ⟨k, hk, h1, h2, h3⟩
      · refine .inl ⟨by exact_mod_cast h1, fun y hy => ?_⟩
        rcases List.mem_cons.1 hy with rfl | hy
        · exact hp'
        · exact h2 y hy
      · refine .inr ⟨k + 1, by simp; omega, ?_, by simpa using h2, fun j hj => ?_⟩
        · have : idx p r (i + 1) = ((i + 1 + k : Nat) : Int) := by exact_mod_cast h1
          rw [this]; congr 1; omega
        · cases j with
          | zero => exact hp'
          | succ j => simpa using h3 j (by omega)

theorem ofs_snoc_find (txn : Int) (l : List Ev) (k : Nat) (hk : k ≤ l.length) (h : ∀ j, ∀ hj : j < k, endsOf txn (l[j]'(by omega)) = false) : (ofs txn (l.take k)).find? (fun p => ends p.1) = none := by
  induction k with
  | zero => simp [ofs]
  | succ k ih =>
    rw [ofs_step txn l (by omega), List.find?_append, ih (by omega) (fun j hj => h j (by omega))]
    have hk' := h k (by omega)
    by_cases hp : isOf txn (nth l k) = true
    · rw [if_pos hp]
      have : ends (nth l k) = false := by
        rw [nth_lt (by omega)] at hp ⊢
        simp only [endsOf, isOf] at hk' hp
        rw [hp] at hk'
        simpa using hk'
      simp [this]
    · rw [if_neg hp]; rfl

theorem ofs_find (txn : Int) (l : List Ev) : (ofs txn l).find? (fun p => ends p.1) = if endOf l txn < 0 then none else some (nth l (endOf l txn).toNat, (endOf l txn).toNat) := by
  rcases idx_spec (endsOf txn) l 0 with ⟨h1, h2⟩ | ⟨k, hk, h1, h2, h3⟩
  · have e : endOf l txn = -1 := h1
    rw [e, if_pos (by omega)]
    have := ofs_snoc_find txn l l.length (by omega) (fun j hj => h2 _ (List.getElem_mem _))
    rwa [List.take_of_length_le (by omega)] at this
  · have e : endOf l txn = (k : Int) := by rw [endOf]; simpa using h1
    rw [e, if_neg (by omega), Int.toNat_natCast]
    have hs := ofs_step txn l hk
    have hof : isOf txn (nth l k) = true := by
      rw [nth_lt hk]; simp only [endsOf] at h2; simp [isOf]; simp at h2; exact h2.1
    have hen : ends (nth l k) = true := by
      rw [nth_lt hk]; simp only [endsOf] at h2; simp at h2; exact h2.2
    rw [if_pos hof] at hs
    have hpre : ofs txn (l.take k) ++ [(nth l k, k)] <+: ofs txn l := by rw [← hs]; exact ofs_prefix txn l
    refine find_prefix hpre (fun y hy => ?_) hen
    have := ofs_snoc_find txn l k (by omega) h3
    rw [List.find?_eq_none] at this
    simpa using this y hy

theorem firstOf_spec (l : List Ev) (txn : Int) {k : Nat} (h : firstOf l txn = (k : Int)) : k < l.length ∧ (nth l k).txn = txn := by
  rcases idx_spec (isOf txn) l 0 with ⟨h1, _⟩ | ⟨j, hj, h1, h2, _⟩
  · have e : firstOf l txn = -1 := h1
    omega
  · have e : firstOf l txn = (j : Int) := by rw [firstOf]; simpa using h1
    have : j = k := by omega
    subst this
    exact ⟨hj, by rw [nth_lt hj]; simpa [isOf] using h2⟩

theorem lifeOf_find (l : List Ev) (txn : Int) {k : Nat} (h : firstOf l txn = (k : Int)) : findL l txn = (lifeOf l k, true) := by
  obtain ⟨hk, ht⟩ := firstOf_spec l txn h
  unfold findL lifeOf
  rw [if_neg (by omega), ht, ofs_find, h]
  by_cases he : endOf l txn < 0
  · rw [if_pos he, if_pos he]
  · rw [if_neg he, if_neg he]
    have : ((endOf l txn).toNat : Int) = endOf l txn := Int.toNat_of_nonneg (by omega)
    simp only [this]

/-- The program's loop over a transaction's events, and the reference's over all. -/
theorem lastIdx_append {α : Type} (p : α → Bool) : ∀ (l r : List α) (i d : Int), lastIdx p (l ++ r) i d = lastIdx p r (i + l.length) (lastIdx p l i d)
  | [], r, i, d => by simp [lastIdx]
  | x :: l, r, i, d => by
    rw [List.cons_append, lastIdx_cons, lastIdx_append p l r, lastIdx_cons]
    congr 1
    simp; omega

def lastStep (key : ByteArray) (before : Int) (d : Int) (p : Ev × Nat) : Int := if (p.2 : Int) < before ∧ p.1.kind = 3 ∧ p.1.key = key then (p.2 : Int) else d
def lastFold (key : ByteArray) (before : Int) (ps : List (Ev × Nat)) : Int := ps.foldl (lastStep key before) (-1)
theorem lastFold_snoc (key : ByteArray) (before : Int) (ps : List (Ev × Nat)) (p : Ev × Nat) : lastFold key before (ps ++ [p]) = lastStep key before (lastFold key before ps) p := by simp [lastFold]

theorem lastFold_take (key : ByteArray) (before txn : Int) (l : List Ev) (k : Nat) (hk : k ≤ l.length) : lastFold key before (ofs txn (l.take k)) = lastIdx (wroteBy txn key) ((l.take k).take before.toNat) 0 (-1) := by
  induction k with
  | zero => simp [ofs, lastFold, lastIdx]
  | succ k ih =>
    have ih := ih (by omega)
    have e : l.take (k + 1) = l.take k ++ [nth l k] := by
      rw [List.take_succ_eq_append_getElem (by omega), nth_lt (by omega)]
    have hlen : (l.take k).length = k := by rw [List.length_take]; omega
    rw [ofs_step txn l (by omega)]
    by_cases hb : (k : Int) < before
    · have e2 : (l.take (k + 1)).take before.toNat = l.take k ++ [nth l k] := by rw [e]; exact List.take_of_length_le (by simp; omega)
      have e3 : (l.take k).take before.toNat = l.take k := List.take_of_length_le (by omega)
      rw [e2, lastIdx_append, hlen]
      rw [e3] at ih
      rw [← ih, lastIdx_cons]
      by_cases hp : isOf txn (nth l k) = true
      · rw [if_pos hp, lastFold_snoc, lastStep]
        have ht : (nth l k).txn = txn := by simpa [isOf] using hp
        simp [hb, wroteBy, ht, lastIdx]
      · rw [if_neg hp, List.append_nil]
        have ht : ¬ (nth l k).txn = txn := by simpa [isOf] using hp
        simp [wroteBy, ht, lastIdx]
    · have e2 : (l.take (k + 1)).take before.toNat = (l.take k).take before.toNat := by
        rw [e, List.take_append_of_le_length (by omega)]
      rw [e2, ← ih]
      by_cases hp : isOf txn (nth l k) = true
      · rw [if_pos hp, lastFold_snoc, lastStep, if_neg (by omega)]
      · rw [if_neg hp, List.append_nil]

theorem lastFold_eq (key : ByteArray) (before txn : Int) (l : List Ev) : lastFold key before (ofs txn l) = lastOf l txn key before := by
  have := lastFold_take key before txn l l.length (by omega)
  rwa [List.take_of_length_le (by omega)] at this

end
end Go.Proofs.YtebjiimlcnmfpaaGreat

/-! The plain functions of chapter 9, and what ties the program's way of asking to the reference's. -/
namespace Go.Proofs.YtebjiimlcnmfpaaGreat
section
open Go Go.RowKit

structure Bad where
  kind : Int
  i : Int
  j : Int
deriving DecidableEq
def Bad.z : Bad := ⟨0, 0, 0⟩
def Bad.cs (x : Bad) : List Value := [.int .i64 x.kind, .int .i64 x.i, .int .i64 x.j]
def kBad : Kd Bad := Kd.flat 3 Bad.z Bad.cs (fun _ => rfl)
def bnth (l : List Bad) (i : Nat) : Bad := l.getD i Bad.z
abbrev Bads (w : World) (A : Option Addr) (n : Nat) (l : List Bad) : Prop := Sl kBad w A n l
theorem Bads.opn {w : World} {A : Option Addr} {n : Nat} {l : List Bad} (h : Bads w A n l) (hn : 0 < n) : ∃ b o, A = some ⟨b, o, none⟩ ∧
    (∀ W i, Ext w W → i < n → W.cell? ⟨b, o + i * 3, none⟩ = some (.int .i64 (bnth l i).kind)) ∧
    (∀ W i, Ext w W → i < n → W.cell? ⟨b, o + i * 3 + 1, none⟩ = some (.int .i64 (bnth l i).i)) ∧
    (∀ W i, Ext w W → i < n → W.cell? ⟨b, o + i * 3 + 2, none⟩ = some (.int .i64 (bnth l i).j)) := by
  obtain ⟨b, o, e, hg⟩ := h.get hn
  have hh : ∀ W i j u, Ext w W → i < n → (bnth l i).cs[j]? = some u → W.cell? ⟨b, o + i * 3 + j, none⟩ = some u := fun W i j u hx hi hu => by
    obtain ⟨cs, hR, hc⟩ := hg i hi
    have hcs : cs = (bnth l i).cs := hR
    exact hx.cell (hc j u (by rw [hcs]; exact hu))
  exact ⟨b, o, e, fun W i hx hi => hh W i 0 _ hx hi rfl, fun W i hx hi => hh W i 1 _ hx hi rfl, fun W i hx hi => hh W i 2 _ hx hi rfl⟩

/-- Is a transaction committed, and where does it end? -/
def comOf (h : List Ev) (txn : Int) : Bool := decide (0 ≤ endOf h txn) && ((nth h (endOf h txn).toNat).kind == 4)
def counts (h : List Ev) (i : Int) : Bool :=
  decide (0 ≤ i) && (decide (i < h.length) && (((nth h i.toNat).kind == 2) && (comOf h (nth h i.toNat).txn && decide (i < endOf h (nth h i.toNat).txn))))
def outer (h : List Ev) (i : Int) : Bool := counts h i && decide (lastOf h (nth h i.toNat).txn (nth h i.toNat).key i < 0)
def ownBad (h : List Ev) (i k : Int) : Bad := if (nth h i.toNat).val = (nth h k.toNat).val then Bad.z else ⟨3, i, k⟩
def badW (h : List Ev) (i w : Int) : Bad :=
  if (nth h w.toNat).txn = (nth h i.toNat).txn then ⟨4, i, w⟩
  else if comOf h (nth h w.toNat).txn = false then ⟨1, i, w⟩
  else if lastOf h (nth h w.toNat).txn (nth h i.toNat).key (endOf h (nth h w.toNat).txn) = w then Bad.z
  else ⟨2, i, lastOf h (nth h w.toNat).txn (nth h i.toNat).key (endOf h (nth h w.toNat).txn)⟩
def badAt (h : List Ev) (i : Int) : Bad :=
  if counts h i = false then Bad.z
  else if 0 ≤ lastOf h (nth h i.toNat).txn (nth h i.toNat).key i then ownBad h i (lastOf h (nth h i.toNat).txn (nth h i.toNat).key i)
  else if (nth h i.toNat).val = ByteArray.empty then Bad.z
  else if writer h (nth h i.toNat).key (nth h i.toNat).val < 0 then Bad.z
  else badW h i (writer h (nth h i.toNat).key (nth h i.toNat).val)
theorem bad_zero (h : List Ev) (i : Int) : (badAt h i).kind = 0 ↔ badAt h i = Bad.z := by
  have e1 : ∀ k, (ownBad h i k).kind = 0 → ownBad h i k = Bad.z := fun k e => by
    unfold ownBad at e ⊢
    by_cases h1 : (nth h i.toNat).val = (nth h k.toNat).val
    · rw [if_pos h1]
    · rw [if_neg h1] at e; simp at e
  have e2 : ∀ w, (badW h i w).kind = 0 → badW h i w = Bad.z := fun w e => by
    unfold badW at e ⊢
    by_cases h1 : (nth h w.toNat).txn = (nth h i.toNat).txn
    · rw [if_pos h1] at e; simp at e
    · rw [if_neg h1] at e ⊢
      by_cases h2 : comOf h (nth h w.toNat).txn = false
      · rw [if_pos h2] at e; simp at e
      · rw [if_neg h2] at e ⊢
        by_cases h3 : lastOf h (nth h w.toNat).txn (nth h i.toNat).key (endOf h (nth h w.toNat).txn) = w
        · rw [if_pos h3]
        · rw [if_neg h3] at e; simp at e
  constructor
  · intro e
    unfold badAt at e ⊢
    by_cases h1 : counts h i = false
    · rw [if_pos h1]
    · rw [if_neg h1] at e ⊢
      by_cases h2 : 0 ≤ lastOf h (nth h i.toNat).txn (nth h i.toNat).key i
      · rw [if_pos h2] at e ⊢; exact e1 _ e
      · rw [if_neg h2] at e ⊢
        by_cases h3 : (nth h i.toNat).val = ByteArray.empty
        · rw [if_pos h3]
        · rw [if_neg h3] at e ⊢
          by_cases h4 : writer h (nth h i.toNat).key (nth h i.toNat).val < 0
          · rw [if_pos h4]
          · rw [if_neg h4] at e ⊢; exact e2 _ e
  · intro e; rw [e]; rfl

theorem isOf_first {l : List Ev} {k : Nat} (hk : k < l.length) : 0 ≤ firstOf l (nth l k).txn := by
  rcases idx_spec (isOf (nth l k).txn) l 0 with ⟨_, h2⟩ | ⟨j, hj, h1, _⟩
  · have := h2 _ (List.getElem_mem hk)
    rw [← nth_lt hk] at this
    simp [isOf] at this
  · have e : firstOf l (nth l k).txn = (j : Int) := by rw [firstOf]; simpa using h1
    omega
theorem findL_of {l : List Ev} {k : Nat} (hk : k < l.length) :
    (findL l (nth l k).txn).2 = true ∧ (findL l (nth l k).txn).1.txn = (nth l k).txn ∧ (findL l (nth l k).txn).1.com = comOf l (nth l k).txn ∧ (findL l (nth l k).txn).1.till = if endOf l (nth l k).txn < 0 then (l.length : Int) else endOf l (nth l k).txn := by
  have h := isOf_first hk
  unfold findL comOf
  rw [if_neg (by omega)]
  by_cases he : endOf l (nth l k).txn < 0
  · rw [if_pos he, if_pos he]
    refine ⟨rfl, rfl, ?_, rfl⟩
    simp; omega
  · rw [if_neg he, if_neg he]
    refine ⟨rfl, rfl, ?_, rfl⟩
    have : decide (0 ≤ endOf l (nth l k).txn) = true := decide_eq_true (by omega)
    simp [this]
theorem comOf_end {l : List Ev} {t : Int} (h : comOf l t = true) : 0 ≤ endOf l t ∧ endOf l t < l.length ∧ (nth l (endOf l t).toNat).kind = 4 := by
  unfold comOf at h
  simp at h
  have := idx_lt (endsOf t) l
  have e : endOf l t = idx (endsOf t) l 0 := rfl
  exact ⟨h.1, by omega, h.2⟩

end
end Go.Proofs.YtebjiimlcnmfpaaGreat

/-! Plain laws: what a well formed history says of its events; what is wrong with a read, said in words. -/
namespace Go.Proofs.YtebjiimlcnmfpaaGreat
section
open Go Go.RowKit Go.Proofs
set_option linter.unusedSimpArgs false
set_option linter.unusedVariables false

theorem nth_take {l : List Ev} {m k : Nat} (h : k < m) : nth (l.take m) k = nth l k := by
  unfold nth; simp [List.getD_eq_getElem?_getD, List.getElem?_take, h]

/-- The place of the first one: none, or it is there and none lies ahead of it. -/
theorem idx_nth (p : Ev → Bool) (l : List Ev) : (idx p l 0 = -1 ∧ ∀ j, j < l.length → p (nth l j) = false) ∨ ∃ k : Nat, k < l.length ∧ idx p l 0 = k ∧ p (nth l k) = true ∧ ∀ j, j < k → p (nth l j) = false := by
  rcases idx_spec p l 0 with ⟨h, h2⟩ | ⟨k, hk, h, h2, h3⟩
  · exact .inl ⟨h, fun j hj => by rw [nth_lt hj]; exact h2 _ (List.getElem_mem hj)⟩
  · refine .inr ⟨k, hk, by simpa using h, by rw [nth_lt hk]; exact h2, fun j hj => ?_⟩
    rw [nth_lt (show j < l.length by omega)]
    exact h3 j hj

theorem lastIdx_spec {α : Type} (p : α → Bool) : ∀ (l : List α) (i : Nat) (d : Int), (lastIdx p l i d = d ∧ ∀ x ∈ l, p x = false) ∨ ∃ k, ∃ h : k < l.length, lastIdx p l i d = ((i + k : Nat) : Int) ∧ p l[k] = true ∧ ∀ j, ∀ h : j < l.length, k < j → p l[j] = false
  | [], i, d => .inl ⟨rfl, fun _ h => by cases h⟩
  | x :: r, i, d => by
    rw [lastIdx_cons]
    rcases lastIdx_spec p r (i + 1) (if p x then (i : Int) else d) with ⟨h, h2⟩ | ⟨k, hk, h, h2, h3⟩
    · by_cases hp : p x = true
      · refine .inr ⟨0, by simp, ?_, hp, fun j hj hj0 => ?_⟩
        · rw [show ((i : Int) + 1) = ((i + 1 : Nat) : Int) by omega, h, if_pos hp]; simp
        · obtain ⟨m, rfl⟩ := Nat.exists_eq_succ_of_ne_zero (show j ≠ 0 by omega)
          exact h2 _ (List.getElem_mem _)
      · refine .inl ⟨?_, fun y hy => ?_⟩
        · rw [show ((i : Int) + 1) = ((i + 1 : Nat) : Int) by omega, h, if_neg hp]
        · rcases List.mem_cons.1 hy with rfl | hy
          · simpa using hp
          · exact h2 y hy
    · refine .inr ⟨k + 1, by simpa using hk, ?_, by simpa using h2, fun j hj hjk => ?_⟩
      · rw [show ((i : Int) + 1) = ((i + 1 : Nat) : Int) by omega, h]; omega
      · obtain ⟨m, rfl⟩ := Nat.exists_eq_succ_of_ne_zero (show j ≠ 0 by omega)
        have := h3 m (by simpa using hj) (by omega)
        simpa using this

/-- The place of the last one ahead of m. -/
theorem last_nth (p : Ev → Bool) (l : List Ev) (m : Nat) : (lastIdx p (l.take m) 0 (-1) = -1 ∧ ∀ j, j < l.length → j < m → p (nth l j) = false) ∨ ∃ k : Nat, k < l.length ∧ k < m ∧ lastIdx p (l.take m) 0 (-1) = k ∧ p (nth l k) = true ∧ ∀ j, j < l.length → j < m → k < j → p (nth l j) = false := by
  rcases lastIdx_spec p (l.take m) 0 (-1) with ⟨h, h2⟩ | ⟨k, hk, h, h2, h3⟩
  · refine .inl ⟨h, fun j hj hm => ?_⟩
    have hj' : j < (l.take m).length := by simp; omega
    rw [← nth_take hm, nth_lt hj']; exact h2 _ (List.getElem_mem hj')
  · have hk' : k < l.length ∧ k < m := by simp at hk; omega
    refine .inr ⟨k, hk'.1, hk'.2, by simpa using h, by rw [← nth_take hk'.2, nth_lt hk]; exact h2, fun j hj hm hkj => ?_⟩
    have hj' : j < (l.take m).length := by simp; omega
    rw [← nth_take hm, nth_lt hj']; exact h3 j hj' hkj

/-- What a well formed history says. -/
structure Wf (l : List Ev) : Prop where
  len : l.length ≤ 256
  step : ∀ j, j < l.length → stepErr l j = 0
  clos : ∀ j, j < l.length → 0 ≤ endOf l (nth l j).txn

theorem firstErr_ok {f : Nat → Int} : ∀ {m i : Nat}, (firstErr f m i).2 = 0 → ∀ j, i ≤ j → j < i + m → f j = 0
  | 0, i, _, j, h1, h2 => by omega
  | m + 1, i, h, j, h1, h2 => by
    unfold firstErr at h
    by_cases hf : f i = 0
    · rw [if_pos hf] at h
      by_cases e : j = i
      · rw [e]; exact hf
      · exact firstErr_ok h j (by omega) (by omega)
    · rw [if_neg hf] at h; exact absurd h hf
theorem formed_wf {l : List Ev} (h : (formed l).2 = 0) : Wf l := by
  unfold formed at h
  by_cases h1 : 256 < l.length
  · rw [if_pos h1] at h; cases h
  · rw [if_neg h1] at h
    by_cases h2 : (firstErr (stepErr l) l.length 0).2 ≠ 0
    · rw [if_pos h2] at h; exact absurd h h2
    · rw [if_neg h2] at h
      refine ⟨by omega, fun j hj => firstErr_ok (by simpa using h2) j (by omega) (by omega), fun j hj => ?_⟩
      have := firstErr_ok (f := openErr l) (m := l.length) (i := 0) h j (by omega) (by omega)
      unfold openErr at this
      split at this
      · cases this
      · omega
theorem Wf.may {l : List Ev} (h : Wf l) {j : Nat} (hj : j < l.length) : MayP (nth l j) := by
  have := h.step j hj
  rw [← may_iff]
  unfold stepErr at this
  cases hm : Go.Proofs.YtebjiimlcnmfpaaGreat.may (nth l j) with
  | true => rfl
  | false => rw [if_pos hm] at this; cases this

/-- An event that is no beginning has a beginning ahead of it, and no end. -/
theorem Wf.mid {l : List Ev} (h : Wf l) {j : Nat} (hj : j < l.length) (hk : (nth l j).kind ≠ 1) : 0 ≤ firstOf (l.take j) (nth l j).txn ∧ endOf (l.take j) (nth l j).txn < 0 := by
  have := h.step j hj
  unfold stepErr at this
  split at this
  · cases this
  · split at this
    · contradiction
    · split at this
      · cases this
      · split at this
        · cases this
        · omega
theorem Wf.noEnd {l : List Ev} (h : Wf l) {j i : Nat} (hj : j < l.length) (hk : (nth l j).kind ≠ 1) (hi : i < j) (ht : (nth l i).txn = (nth l j).txn) : ends (nth l i) = false := by
  have h1 := (h.mid hj hk).2
  unfold endOf at h1
  rcases idx_nth (endsOf (nth l j).txn) (l.take j) with ⟨_, h2⟩ | ⟨k, _, h2, _⟩
  · have := h2 i (by simp; omega)
    rw [nth_take hi] at this
    simpa [endsOf, ht] using this
  · omega
/-- A value is written once. -/
theorem Wf.once {l : List Ev} (h : Wf l) {i j : Nat} (hj : j < l.length) (hij : i < j) (h1 : (nth l i).kind = 3) (h2 : (nth l j).kind = 3) : (nth l i).val ≠ (nth l j).val := by
  intro hv
  have hs := h.step j hj
  have hm := h.mid hj (by omega)
  have hmay : Go.Proofs.YtebjiimlcnmfpaaGreat.may (nth l j) = true := (may_iff _).2 (h.may hj)
  unfold stepErr at hs
  rw [if_neg (by rw [hmay]; simp), if_neg (by omega), if_neg (by omega), if_neg (by omega), if_pos] at hs
  · cases hs
  · refine ⟨h2, List.any_eq_true.2 ⟨nth l i, ?_, by simp [twice, h1, hv]⟩⟩
    rw [nth_lt (show i < l.length by omega)]
    rw [List.mem_take_iff_getElem]
    exact ⟨i, by omega, rfl⟩

/-- What is wrong with a read, in words. -/
structure Says (l : List Ev) (k u : Nat) (c : Int) : Prop where
  hk : k < l.length
  hu : u < l.length
  read : (nth l k).kind = 2
  write : (nth l u).kind = 3
  key : (nth l u).key = (nth l k).key
  com : comOf l (nth l k).txn = true
  why : (c = 1 ∧ comOf l (nth l u).txn = false ∧ (nth l u).val = (nth l k).val ∧ (nth l u).txn ≠ (nth l k).txn) ∨
        (c = 2 ∧ comOf l (nth l u).txn = true ∧ (nth l u).val ≠ (nth l k).val ∧ (nth l u).txn ≠ (nth l k).txn) ∨
        (c = 3 ∧ (nth l u).txn = (nth l k).txn ∧ u < k ∧ (nth l u).val ≠ (nth l k).val) ∨
        (c = 4 ∧ (nth l u).txn = (nth l k).txn ∧ k < u ∧ (nth l u).val = (nth l k).val)

end
end Go.Proofs.YtebjiimlcnmfpaaGreat

/-! A row of one's own, its elements by the index: what a store, a clearing and a cut make of it. -/
namespace Go.Proofs.YtebjiimlcnmfpaaGreat
section
open Go Go.RowKit Go.Proofs
set_option linter.unusedSimpArgs false
set_option linter.unusedVariables false

theorem get_getD {α : Type} (l : List α) {i : Nat} {u : α} (h : i < l.length) : l[i]? = some (l.getD i u) := by
  rw [List.getD_eq_getElem?_getD, List.getElem?_eq_getElem h]; rfl

/-- Block g is a row of room elements of sz cells; the first n of them are 'd 0', 'd 1', ..; the cells behind them are 'ex'. -/
def RowD {α : Type} (c : α → List Value) (sz : Nat) (w : World) (g : Nat) (T : TypeId) (n room : Nat) (d : Nat → α) (ex : Nat → Value) : Prop :=
  w.rowIs g T (room * sz) (fun i => if i < n * sz then (c (d (i / sz))).getD (i % sz) undef else ex i)

section
variable {α : Type} {c : α → List Value} {sz : Nat} {w w' : World} {g : Nat} {T : TypeId} {n room : Nat} {d : Nat → α} {ex : Nat → Value}

theorem RowD.alloc (h : RowD c sz w g T n room d ex) (o : Obj) : RowD c sz (w.alloc o) g T n room d ex := World.rowIs.alloc h o
theorem RowD.drew (h : RowD c sz w g T n room d ex) : RowD c sz w.drew g T n room d ex := h
theorem RowD.drewN (h : RowD c sz w g T n room d ex) (k : Nat) : RowD c sz (w.drewN k) g T n room d ex := h
theorem RowD.ext (h : RowD c sz w g T n room d ex) (x : Ext w w') : RowD c sz w' g T n room d ex := by
  obtain ⟨cs, hb, hn, hc⟩ := h
  exact ⟨cs, x.block hb, hn, hc⟩
theorem RowD.far (h : RowD c sz w g T n room d ex) {a : Addr} (ha : g ≠ a.block) (v : Value) : RowD c sz (w.setCell a v) g T n room d ex := World.rowIs.setOther h ha v
theorem RowD.lt (h : RowD c sz w g T n room d ex) : g < w.heap.size := World.rowIs.lt h
theorem RowD.frozen (h : RowD c sz w g T n room d ex) (i : Nat) : w.frozen? ⟨g, i, none⟩ = false := World.rowIs.frozen h i
theorem RowD.cell (h : RowD c sz w g T n room d ex) (hnr : n ≤ room) {i j : Nat} (hi : i < n) (hj : j < sz) : w.cell? ⟨g, i * sz + j, none⟩ = some ((c (d i)).getD j undef) := by
  have h1 : i * sz + j < n * sz := by
    have := Nat.mul_le_mul_right sz (show i + 1 ≤ n by omega)
    rw [Nat.succ_mul] at this
    omega
  have h2 := Nat.mul_le_mul_right sz hnr
  have := World.rowIs.cell h (show i * sz + j < room * sz by omega)
  rw [this, if_pos h1]
  have e1 : (i * sz + j) / sz = i := by rw [Nat.add_comm, Nat.add_mul_div_right _ _ (by omega), Nat.div_eq_of_lt hj]; omega
  have e2 : (i * sz + j) % sz = j := by rw [Nat.add_comm, Nat.add_mul_mod_self_right, Nat.mod_eq_of_lt hj]
  rw [e1, e2]
theorem RowD.congr {d' : Nat → α} (h : RowD c sz w g T n room d ex) (e : ∀ i, i < n → d i = d' i) : RowD c sz w g T n room d' ex :=
  World.rowIs.congr h fun i _ => by
    by_cases hi : i < n * sz
    · have : i / sz < n := by
        rcases Nat.eq_zero_or_pos sz with h0 | h0
        · subst h0; simp at hi
        · exact (Nat.div_lt_iff_lt_mul h0).2 hi
      simp only [hi, if_true]
      rw [e _ this]
    · simp only [hi, if_false]

/-- Cells that are written one behind the other. -/
theorem rowIs_setCells {f : Nat → Value} {m : Nat} : ∀ (vs : List Value) (o : Nat) (w : World) (f : Nat → Value), w.rowIs g T m f → (w.setCells g o vs).rowIs g T m (fun i => if o ≤ i ∧ i < o + vs.length then vs.getD (i - o) undef else f i)
  | [], o, w, f, h => World.rowIs.congr h fun i _ => by rw [if_neg (by intro ⟨h1, h2⟩; simp at h2; omega)]
  | v :: r, o, w, f, h => by
    have := rowIs_setCells (f := f) (m := m) r (o + 1) (w.setCell ⟨g, o, none⟩ v) _ (World.rowIs.set h o v)
    refine World.rowIs.congr this fun i _ => ?_
    by_cases e : i = o
    · subst e
      rw [if_neg (by omega), if_pos rfl, if_pos (by simp)]; simp
    · by_cases e2 : o + 1 ≤ i ∧ i < o + 1 + r.length
      · rw [if_pos e2, if_pos (by simp <;> omega), show i - o = (i - (o + 1)) + 1 by omega]; simp
      · rw [if_neg e2, if_neg e, if_neg (by simp; omega)]

/-- AN ELEMENT IS WRITTEN. -/
theorem RowD.put (h : RowD c sz w g T n room d ex) (hc : ∀ x, (c x).length = sz) {i : Nat} (hi : i < n) (x : α) : RowD c sz (w.setCells g (i * sz) (c x)) g T n room (fun k => if k = i then x else d k) ex := by
  refine World.rowIs.congr (rowIs_setCells (f := fun _ => undef) (c x) (i * sz) w _ h) fun q hq => ?_
  rw [hc]
  have h1 : i * sz + sz ≤ n * sz := by
    have := Nat.mul_le_mul_right sz (show i + 1 ≤ n by omega)
    rwa [Nat.succ_mul] at this
  rcases Nat.eq_zero_or_pos sz with h0 | h0
  · subst h0; simp
  · by_cases e : i * sz ≤ q ∧ q < i * sz + sz
    · have e1 : q / sz = i := by
        rw [Nat.div_eq_iff h0]
        constructor
        · exact e.1
        · omega
      have e2 : q % sz = q - i * sz := by
        have := Nat.div_add_mod q sz
        rw [e1, Nat.mul_comm] at this; omega
      rw [if_pos e, if_pos (by omega), e1]
      show _ = (c (if i = i then x else d i)).getD _ _
      rw [if_pos rfl, e2]
    · rw [if_neg e]
      by_cases e3 : q < n * sz
      · have e1 : q / sz ≠ i := by
          intro e1
          have := Nat.div_add_mod q sz
          rw [e1, Nat.mul_comm] at this
          have := Nat.mod_lt q h0
          omega
        simp only [e3, if_true, e1, if_false]
      · simp only [e3, if_false]

/-- A row of one's own, opened. -/
theorem RowD.of_own {base : Nat} {v : Value} {l : List α} {z : α} (h : w.ownsRow base T sz v l.length (l.flatMap c)) (hc : ∀ x, (c x).length = sz) :
    (v = .slice none 0 0 ∧ l = []) ∨ ∃ g room ex, v = .slice (some ⟨g, 0, none⟩) l.length room ∧ base ≤ g ∧ l.length ≤ room ∧ room ≤ maxLen ∧ RowD c sz w g T l.length room (fun i => l.getD i z) ex := by
  obtain ⟨h1, ⟨h2, h3⟩ | ⟨g, room, cur, h2, h3, h4, h5, h6, h7, h8⟩⟩ := h
  · exact .inl ⟨h2, List.length_eq_zero_iff.1 h3⟩
  · refine .inr ⟨g, room, fun i => cur.getD i undef, h2, h3, h5, h6, cur, h4, h7, fun i hi => ?_⟩
    have hcur : cur[i]? = some (cur.getD i undef) := by
      simp [Array.getD_eq_getD_getElem?, show i < cur.size by omega]
    show _ = some (if i < l.length * sz then (c (l.getD (i / sz) z)).getD (i % sz) undef else cur.getD i undef)
    by_cases e : i < l.length * sz
    · rw [if_pos e]
      rcases Nat.eq_zero_or_pos sz with h0 | h0
      · subst h0; simp at e
      · have hd : i / sz < l.length := (Nat.div_lt_iff_lt_mul h0).2 e
        have hm : i % sz < sz := Nat.mod_lt _ h0
        have := flatMap_get sz z c hc l (i / sz) (i % sz) hd hm
        rw [Nat.div_add_mod' i sz, ← h8, List.getElem?_take, if_pos e] at this
        have e2 : cur[i]? = cur.toList[i]? := by simp
        rw [e2, this]
        exact get_getD _ (by rw [hc]; exact hm)
    · rw [if_neg e]; exact hcur

/-- A beginning of it, as a row of one's own. -/
theorem RowD.to_own (h : RowD c sz w g T n room d ex) (hc : ∀ x, (c x).length = sz) (z : α) {base m : Nat} (hb : base ≤ g) (hm : m ≤ n) (hnr : n ≤ room) (hr : room ≤ maxLen) (l : List α) (hl : l.length = m) (hd : ∀ i, i < m → d i = l.getD i z) :
    w.ownsRow base T sz (.slice (some ⟨g, 0, none⟩) m room) m (l.flatMap c) := by
  obtain ⟨cur, hcur, hsz, hg⟩ := h
  have hfl : (l.flatMap c).length = m * sz := by rw [flatMap_len sz c hc, hl]
  refine ⟨hfl, .inr ⟨g, room, cur, rfl, hb, hcur, by omega, hr, hsz, ?_⟩⟩
  refine List.ext_getElem? fun i => ?_
  have hmr := Nat.mul_le_mul_right sz (show m ≤ room by omega)
  have hmn := Nat.mul_le_mul_right sz hm
  by_cases e : i < m * sz
  · rw [List.getElem?_take, if_pos e]
    rcases Nat.eq_zero_or_pos sz with h0 | h0
    · subst h0; simp at e
    · have hdv : i / sz < m := (Nat.div_lt_iff_lt_mul h0).2 e
      have hmd : i % sz < sz := Nat.mod_lt _ h0
      have h1 : cur[i]? = some (if i < n * sz then (c (d (i / sz))).getD (i % sz) undef else ex i) := hg i (by omega)
      rw [if_pos (by omega), hd _ hdv] at h1
      have h2 := flatMap_get sz z c hc l (i / sz) (i % sz) (by omega) hmd
      rw [Nat.div_add_mod' i sz] at h2
      rw [h2, show cur.toList[i]? = cur[i]? by simp, h1]
      exact (get_getD _ (by rw [hc]; exact hmd)).symm
  · rw [List.getElem?_take, if_neg e, List.getElem?_eq_none (by omega)]
end
end
end Go.Proofs.YtebjiimlcnmfpaaGreat

/-! Rows of numbers. -/
namespace Go.Proofs.YtebjiimlcnmfpaaGreat
section
section
open Go Go.RowKit Go.Proofs Go.Shelf
def intCs (x : Int) : List Value := [.int .i64 x]
def kInt : Kd Int := Kd.flat 1 0 intCs (fun _ => rfl)
abbrev Nums (w : World) (A : Option Addr) (n : Nat) (l : List Int) : Prop := Sl kInt w A n l
def inth (l : List Int) (i : Nat) : Int := l.getD i 0
theorem Nums.opn {w : World} {A : Option Addr} {n : Nat} {l : List Int} (h : Nums w A n l) (hn : 0 < n) : ∃ b o, A = some ⟨b, o, none⟩ ∧ (∀ W i, Ext w W → i < n → W.cell? ⟨b, o + i, none⟩ = some (.int .i64 (inth l i))) := by
  obtain ⟨b, o, e, hg⟩ := h.get hn
  refine ⟨b, o, e, fun W i hx hi => ?_⟩
  obtain ⟨cs, hR, hc⟩ := hg i hi
  have hcs : cs = intCs (inth l i) := hR
  have := hx.cell (hc 0 (.int .i64 (inth l i)) (by rw [hcs]; rfl))
  simpa [kInt, Kd.flat] using this
end
end
end Go.Proofs.YtebjiimlcnmfpaaGreat
