/-
  Words for memory that every walk of this seat uses: a world that goes on from another one, slices that read as lists.
-/
import Derived.WalkKit
import Derived.KernelRfl
import Derived.Lib.Hide
import Derived.RowKit
import Derived.Deep.Draws
import Derived.Deep.QuietTactic
import Derived.BigQuiet
import Derived.WideShapes
import Derived.RangeFuncNested
import Derived.RangeFuncBound
import Derived.RangeFuncCalls
import Derived.RangeFuncLeaves
import Derived.Shelf.Abstract
import Derived.Shelf.RegionOpen
import Derived.OwnWalkIn
import Derived.TacticsInMore
import Derived.LoopNIn
import Derived.LoopIn
import Derived.BigRegionIn
import Derived.Deep.RegionWith
import Derived.Deep.RegionHeld3
import Derived.Deep.DeepCutAuto
import Derived.Deep.LoopGhost
import Derived.Deep.RegionLaw
import Derived.StillTailTactics
namespace Go.Proofs.Ythjgmccpbcelgaa
open Go Go.RowKit Go.Shelf

/-! ### worlds that go on -/
/-- Of what was there in w nothing has turned in w'. -/
def Ext (w w' : World) : Prop := Below w.heap.size w w'
theorem Ext.refl (w : World) : Ext w w := Below.refl _ _
theorem Ext.trans {a b c : World} (h : Ext a b) (k : Ext b c) : Ext a c := Below.trans h (Below.mono k h.size)
theorem Ext.alloc {w W : World} (h : Ext w W) (o : Obj) : Ext w (W.alloc o) := Below.alloc h h.size o
theorem Ext.drew {w W : World} (h : Ext w W) : Ext w W.drew := Below.drew h
theorem Ext.drewN {w W : World} (h : Ext w W) (n : Nat) : Ext w (W.drewN n) := ⟨h.os, h.tape, h.output, h.size, h.block⟩
theorem Ext.alloc2 {w W : World} (h : Ext w W) (o o' : Obj) : Ext w ((W.alloc o).alloc o') := (h.alloc o).alloc o'
theorem Ext.alloc3 {w W : World} (h : Ext w W) (o o' o'' : Obj) : Ext w (((W.alloc o).alloc o').alloc o'') := (h.alloc2 o o').alloc o''
theorem Ext.alloc4 {w W : World} (h : Ext w W) (o o' o'' p : Obj) : Ext w ((((W.alloc o).alloc o').alloc o'').alloc p) := (h.alloc3 o o' o'').alloc p
theorem Ext.drewN_alloc {w W : World} (h : Ext w W) (o : Obj) (n : Nat) : Ext w ((W.alloc o).drewN n) := (h.alloc o).drewN n
theorem Ext.drewN_alloc2 {w W : World} (h : Ext w W) (o o' : Obj) (n : Nat) : Ext w (((W.alloc o).alloc o').drewN n) := (h.alloc2 o o').drewN n
theorem Ext.drew_alloc {w W : World} (h : Ext w W) (o : Obj) : Ext w (W.alloc o).drew := (h.alloc o).drew
theorem Ext.setCell {w W : World} {p : Addr} (hp : w.heap.size ≤ p.block) (h : Ext w W) (v : Value) : Ext w (W.setCell p v) := Below.setCell h hp v
theorem Ext.grown {a w w' : World} {row : Option Nat} (h : Ext a w) (hg : w.grownBy w' row) (hr : ∀ k, row = some k → a.heap.size ≤ k) : Ext a w' := Below.grown h hg h.size hr
theorem Ext.le {w W : World} (h : Ext w W) : w.heap.size ≤ W.heap.size := h.size
theorem Ext.cell {w W : World} (h : Ext w W) {p : Addr} {v : Value} (hc : w.cell? p = some v) : W.cell? p = some v := by
  have hlt : p.block < w.heap.size := by
    rcases Nat.lt_or_ge p.block w.heap.size with hlt | hge
    · exact hlt
    · simp [World.cell?, Array.getElem?_eq_none hge] at hc
  exact (Below.cell h hlt).trans hc
theorem Ext.block {w W : World} (h : Ext w W) {k : Nat} {o : Obj} (hc : w.heap[k]? = some o) : W.heap[k]? = some o := by
  have hlt : k < w.heap.size := (Array.getElem?_eq_some_iff.1 hc).1
  exact (Below.block h k hlt).trans hc

/-- A name for a fact that the walk is not to use as a rule. -/
theorem hid {p : Prop} (h : p) : Hid p := h

/-! ### a region that draws its order, whose operations read, and whose calls leave a world that goes on -/
structure After (w : World) where
  v : World
  h : Ext w v
instance (w : World) : Inhabited (After w) := ⟨⟨w, Ext.refl w⟩⟩
section
variable {P : Program}
theorem wp_region_ext_lit {id : Nat} {Q : Exit → Act → World → Prop} {a : Act} {w : World} {l : List Oper} (hm : P.follows .mixedOrders = true) (hB : Region.lexB .any l.toArray = true)
    (h : wpQuiet P l.toArray (fun V => ∃ x : After w, V = x.v) (fun a' => ∀ w', (∃ x : After w, w' = x.v) → Q .normal a' w') l a) : (Code.region id l.toArray true).wp P Q a w :=
  wp_region_quiet (C := fun V => ∃ x : After w, V = x.v) hm hB ⟨⟨_, (Ext.refl w).drew⟩, rfl⟩ (by simpa using h)
theorem Calls.quietX {f : FuncId} {args : Array Value} {W : World} {x : After W} {v : Value}
    (h : Calls P f args x.v fun e w' => e = .returned v ∧ Ext x.v w') : Calls P f args x.v fun e w'' => e = .returned v ∧ ∃ y : After W, w'' = y.v :=
  h.mono fun _ w' ⟨he, hm⟩ => ⟨he, ⟨w', x.h.trans hm⟩, rfl⟩
theorem Calls.quietX_same {f : FuncId} {args : Array Value} {W : World} {x : After W} {v : Value}
    (h : Calls P f args x.v fun e w' => e = .returned v ∧ w' = x.v) : Calls P f args x.v fun e w'' => e = .returned v ∧ ∃ y : After W, w'' = y.v :=
  h.mono fun _ w' ⟨he, hm⟩ => ⟨he, x, hm⟩
end

/-! ### a scope (a label stands in it; nothing jumps to it), within a fence -/
section
variable {F : Fence} {n : Nat} {P : Program} {b : Frame} {a : Act} {k : List Item} {cs : List Frame} {w : World} {Q : Exit → Act → World → Prop}
theorem stepR_scope {c : Code} : step P (lone (b.atR a (.code (.scope c) :: k)) cs w) = .next (lone (b.atR a (.code c :: .inScope c :: k)) cs w) :=
  step_lone_go (by simp [stepG, stepG.exec, Frame.atR])
theorem stepR_inScope {c : Code} : step P (lone (b.atR a (.inScope c :: k)) cs w) = .next (lone (b.atR a k) cs w) :=
  step_lone_go (by simp [stepG, stepG.exec, Frame.atR])
theorem wpIn_scope_straight {c : Code} (h : c.wpIn F n P (Exit.noGoto Q) a w) : (Code.scope c).wpIn F n P Q a w := by
  intro b k cs hro hb hr
  have h0 : (lone (b.atR a (.code (.scope c) :: k)) cs w).fenced P F := fenced_calm hb hr rfl
  obtain ⟨e, a₁, w₁, hq, harr⟩ := h b (.inScope c :: k) cs hro hb hr
  cases e with
  | normal => exact ⟨.normal, a₁, w₁, hq, .head h0 stepR_scope (StepsIn.trans harr (.one (fenced_calm hb hr rfl) stepR_inScope))⟩
  | exit id =>
    have hx : exitTo id (.inScope c :: k) = exitTo id k := by simp [exitTo]
    exact ⟨.exit id, a₁, w₁, hq, fun k' hk => .head h0 stepR_scope (harr.1 k' (by rw [hx]; exact hk)),
      fun hr' hk => let ⟨k₁, h1, h2⟩ := harr.2 hr' (by rw [hx]; exact hk); ⟨k₁, h1, .head h0 stepR_scope h2⟩⟩
  | goto l => exact hq.elim
  | ret => exact ⟨_, a₁, w₁, hq, .of_steps (.one h0 stepR_scope) harr⟩
  | panic ch => exact ⟨_, a₁, w₁, hq, .of_steps (.one h0 stepR_scope) harr⟩
  | outgrown => exact ⟨_, a₁, w₁, hq, .of_steps (.one h0 stepR_scope) harr⟩
end

/-! ### kinds: how a value of a Lean type lies in cells -/
structure Kd (α : Type) where
  sz : Nat
  z : α
  R : World → α → List Value → Prop
  hlen : ∀ {w x cs}, R w x cs → cs.length = sz
  mono : ∀ {w w' x cs}, Ext w w' → R w x cs → R w' x cs

/-- A kind without memory of its own. -/
def Kd.flat {α : Type} (sz : Nat) (z : α) (c : α → List Value) (h : ∀ x, (c x).length = sz) : Kd α where
  sz := sz
  z := z
  R := fun _ x cs => cs = c x
  hlen := by rintro _ x _ rfl; exact h x
  mono := fun _ h => h

def BIG : Nat := 140737488351232

/-- '.slice A n cap' reads as l, in w and in all worlds that go on from it. -/
structure Sl {α : Type} (k : Kd α) (w : World) (A : Option Addr) (n : Nat) (l : List α) : Prop where
  len : l.length = n
  big : n ≤ 140737488351232
  get : 0 < n → ∃ b o, A = some ⟨b, o, none⟩ ∧ ∀ i, i < n → ∃ cs, k.R w (l.getD i k.z) cs ∧ ∀ j u, cs[j]? = some u → w.cell? ⟨b, o + i * k.sz + j, none⟩ = some u

theorem Sl.nil {α : Type} (k : Kd α) (w : World) (A : Option Addr) : Sl k w A 0 [] := ⟨rfl, by omega, fun h => absurd h (by omega)⟩
theorem Sl.ext {α : Type} {k : Kd α} {w W : World} {A : Option Addr} {n : Nat} {l : List α} (h : Sl k w A n l) (x : Ext w W) : Sl k W A n l :=
  ⟨h.len, h.big, fun hn => by
    obtain ⟨b, o, e, hg⟩ := h.get hn
    exact ⟨b, o, e, fun i hi => by
      obtain ⟨cs, hR, hc⟩ := hg i hi
      exact ⟨cs, k.mono x hR, fun j u hu => x.cell (hc j u hu)⟩⟩⟩
/-- A beginning of it: 'xs[:m]'. -/
theorem Sl.take {α : Type} {k : Kd α} {w : World} {A : Option Addr} {n : Nat} {l : List α} (h : Sl k w A n l) {m : Nat} (hm : m ≤ n) : Sl k w A m (l.take m) :=
  ⟨by have := h.len; rw [List.length_take]; omega, by have := h.big; omega, fun hn => by
    obtain ⟨b, o, e, hg⟩ := h.get (by omega)
    refine ⟨b, o, e, fun i hi => ?_⟩
    obtain ⟨cs, hR, hc⟩ := hg i (by omega)
    refine ⟨cs, ?_, hc⟩
    have : (l.take m).getD i k.z = l.getD i k.z := by
      simp only [List.getD_eq_getElem?_getD, List.getElem?_take, hi, if_true]
    rwa [this]⟩

theorem flatMap_get {α : Type} (sz : Nat) (z : α) (c : α → List Value) (hc : ∀ x, (c x).length = sz) : ∀ (l : List α) (i j : Nat), i < l.length → j < sz → (l.flatMap c)[i * sz + j]? = (c (l.getD i z))[j]?
  | [], i, _, h, _ => by simp at h
  | x :: r, 0, j, _, hj => by
    rw [List.flatMap_cons, Nat.zero_mul, Nat.zero_add, List.getElem?_append_left (by rw [hc]; exact hj)]
    rfl
  | x :: r, i + 1, j, h, hj => by
    have ih := flatMap_get sz z c hc r i j (by simpa using h) hj
    rw [List.flatMap_cons, List.getElem?_append_right (by rw [hc, Nat.succ_mul]; omega), hc]
    rw [show (i + 1) * sz + j - sz = i * sz + j by rw [Nat.succ_mul]; omega, ih]
    simp [List.getD_eq_getElem?_getD]
theorem flatMap_len {α : Type} (sz : Nat) (c : α → List Value) (hc : ∀ x, (c x).length = sz) (l : List α) : (l.flatMap c).length = l.length * sz := by
  induction l with
  | nil => simp
  | cons x r ih => rw [List.flatMap_cons, List.length_append, hc, ih, List.length_cons, Nat.succ_mul]; omega

theorem own_ext {w w1 : World} {base : Nat} {e : TypeId} {sz : Nat} {v : Value} {n : Nat} {xs : List Value} (h : w.ownsRow base e sz v n xs) (_hb : base ≤ w.heap.size) (x : Ext w w1) : w1.ownsRow base e sz v n xs := by
  obtain ⟨h1, h2⟩ := h
  refine ⟨h1, ?_⟩
  rcases h2 with h2 | ⟨g, cap, cur, hv, hg, hh, r⟩
  · exact .inl h2
  · exact .inr ⟨g, cap, cur, hv, hg, x.block hh, r⟩

theorem own_block {w : World} {base : Nat} {e : TypeId} {sz : Nat} {v : Value} {n : Nat} {xs : List Value} (h : w.ownsRow base e sz v n xs) : ∀ k, v.ownBlock = some k → base ≤ k := by
  intro k hk
  obtain ⟨h1, h2⟩ := h
  rcases h2 with ⟨rfl, _⟩ | ⟨g, cap, cur, rfl, hg, hh, r⟩
  · cases hk
  · cases hk; exact hg
theorem new_cells {w : World} {t : TypeId} {xs : List Value} {b : Nat} (hb : b = w.heap.size) (j : Nat) (u : Value) (h : xs[j]? = some u) : (w.alloc (.cells xs.toArray t)).cell? ((⟨b, 0, none⟩ : Addr).add j) = some u := by
  subst hb
  have hn : (w.alloc (.cells xs.toArray t)).heap[w.heap.size]? = some (.cells xs.toArray t) := World.alloc_heap_new w _
  unfold Addr.add
  by_cases hj : j = 0
  · subst hj
    simp only [if_true, World.cell?, hn]
    simpa using h
  · rw [if_neg hj]
    simp only [World.cell?, hn]
    simpa using h

/-- A row of the call's own reads as its list. -/
theorem sl_of_own {α : Type} {sz : Nat} {z : α} {c : α → List Value} {hc : ∀ x, (c x).length = sz} {w : World} {base : Nat} {e : TypeId} {v : Value} {l : List α} (h : w.ownsRow base e sz v l.length (l.flatMap c)) (hb : l.length ≤ 140737488351232) :
    ∃ A cap, v = .slice A l.length cap ∧ Sl (Kd.flat sz z c hc) w A l.length l := by
  obtain ⟨h1, h2⟩ := h
  rcases h2 with ⟨rfl, h0⟩ | ⟨g, cap, cur, rfl, hg, hh, hn, hm, hs, ht⟩
  · refine ⟨none, 0, by rw [h0], rfl, hb, fun hn => by omega⟩
  · refine ⟨some ⟨g, 0, none⟩, cap, rfl, rfl, hb, fun _ => ⟨g, 0, rfl, fun i hi => ⟨c (l.getD i z), rfl, fun j u hu => ?_⟩⟩⟩
    have hj : j < sz := by
      have := (List.getElem?_eq_some_iff.1 hu).1
      rwa [hc] at this
    have hlt : i * sz + j < l.length * sz := by
      have : (i + 1) * sz ≤ l.length * sz := Nat.mul_le_mul_right sz hi
      rw [Nat.succ_mul] at this
      omega
    have hx := flatMap_get sz z c hc l i j hi hj
    rw [hu, ← ht, List.getElem?_take, if_pos hlt] at hx
    show w.cell? ⟨g, 0 + i * sz + j, none⟩ = some u
    rw [Nat.zero_add]
    simp only [World.cell?, hh]
    simpa using hx

/-- Dropping one: the round of a loop over a list. -/
theorem drop_step {α : Type} (l : List α) (z : α) {k : Nat} (h : k < l.length) : l.drop k = l.getD k z :: l.drop (k + 1) := by
  rw [List.drop_eq_getElem_cons h]
  simp [List.getD_eq_getElem?_getD, h]
theorem drop_end {α : Type} (l : List α) {k : Nat} (h : l.length ≤ k) : l.drop k = [] := List.drop_eq_nil_of_le h

theorem toList_inj {a b : ByteArray} : a.toList = b.toList ↔ a = b := by
  constructor
  · intro h
    rw [ByteArray.toList_eq, ByteArray.toList_eq] at h
    exact WideShapes.bytes_inj h
  · intro h; rw [h]
theorem toList_beq (a b : ByteArray) : (a.toList == b.toList) = decide (a = b) := by
  rw [Bool.eq_iff_iff]
  simp [toList_inj]
theorem le0_false {a : Int} (h : a < 0) : (0 ≤ a) = False := by simp; omega
theorem lt0_false {a : Int} (h : 0 ≤ a) : (a < 0) = False := by simp; omega
theorem ret_int {k : IntKind} {a b : Int} (h : a = b) : Ending.returned (.int k a) = .returned (.int k b) := by rw [h]
theorem ret_bool {a b : Bool} (h : a = b) : Ending.returned (.bool a) = .returned (.bool b) := by rw [h]

/-! ### a block that is known whole -/
def Blk (w : World) (g : Nat) (t : TypeId) (cs : Array Value) : Prop := w.heap[g]? = some (.cells cs t (0, 0))
section
variable {w w' : World} {g : Nat} {t : TypeId} {cs : Array Value}
theorem Blk.lt (h : Blk w g t cs) : g < w.heap.size := (Array.getElem?_eq_some_iff.1 h).1
theorem Blk.cell (h : Blk w g t cs) (i : Nat) : w.cell? ⟨g, i, none⟩ = cs[i]? := by unfold Blk at h; simp [World.cell?, h]
theorem Blk.frozen (h : Blk w g t cs) (i : Nat) : w.frozen? ⟨g, i, none⟩ = false := by unfold Blk at h; simp [World.frozen?, h]
theorem Blk.new (w : World) (t : TypeId) (cs : Array Value) : Blk (w.alloc (.cells cs t)) w.heap.size t cs := World.alloc_heap_new w _
theorem Blk.drew (h : Blk w g t cs) : Blk w.drew g t cs := h
theorem Blk.drewN (h : Blk w g t cs) (n : Nat) : Blk (w.drewN n) g t cs := h
theorem Blk.alloc (h : Blk w g t cs) (o : Obj) : Blk (w.alloc o) g t cs := (Below.heap_alloc w o g h.lt).trans h
theorem Blk.set (h : Blk w g t cs) (i : Nat) (u : Value) : Blk (w.setCell ⟨g, i, none⟩ u) g t (cs.setIfInBounds i u) := by
  unfold Blk at h ⊢
  simp [World.setCell, Array.getElem?_modify, h]
theorem Blk.far (h : Blk w g t cs) {p : Addr} (hp : g ≠ p.block) (u : Value) : Blk (w.setCell p u) g t cs := (Below.heap_setCell w p u g hp).trans h
theorem Blk.ext (h : Blk w g t cs) (x : Ext w w') : Blk w' g t cs := x.block h
theorem Blk.grown {row : Option Nat} (h : Blk w g t cs) (hb : w.grownBy w' row) (hg : some g ≠ row) : Blk w' g t cs := (hb.block g h.lt hg).trans h
end
theorem blk_own {β : Type} (B : Nat) (t : TypeId) (f : β → Array Value) : Own (fun s W => Blk W B t (f s)) := fun s X Y row hs hg hrow =>
  Blk.grown hs hg (fun e' => by obtain ⟨o, ho, hc⟩ := hrow B e'.symm; rw [show X.heap[B]? = _ from hs] at ho; cases ho; cases hc)
theorem own_and {β : Type} {I I' : β → World → Prop} (h : Own I) (h' : Own I') : Own (fun s W => I s W ∧ I' s W) := fun s W W' row hs hg hr => ⟨h s W W' row hs.1 hg hr, h' s W W' row hs.2 hg hr⟩
theorem ownFrom_ext {β : Type} {w : World} {B : Nat} (hB : w.heap.size ≤ B) : OwnFrom B (fun (_ : β) W => Ext w W) := ownFrom_below (Nat.le_refl _) hB
theorem ownFrom_sep {β γ : Type} {B : Nat} {I : β → World → Prop} (f : γ → β) (h : OwnFrom B I) : OwnFrom B (fun s W => I (f s) W) := fun s W W' row hs hg hr => h (f s) W W' row hs hg hr

theorem ownFrom_size {β : Type} (m B : Nat) : OwnFrom B (fun (_ : β) (W : World) => m ≤ W.heap.size) := fun _ W W' _ hs hg _ => Nat.le_trans hs hg.size
theorem Blk.cell0 {w : World} {g : Nat} {t : TypeId} {v : Value} (h : Blk w g t #[v]) : w.cell? ⟨g, 0, none⟩ = some v := h.cell 0
theorem Blk.cells4 {w : World} {g : Nat} {t : TypeId} {a b c d : Value} (h : Blk w g t #[a, b, c, d]) : w.cell? ⟨g, 0, none⟩ = some a ∧ w.cell? ⟨g, 1, none⟩ = some b ∧ w.cell? ⟨g, 2, none⟩ = some c ∧ w.cell? ⟨g, 3, none⟩ = some d := ⟨h.cell 0, h.cell 1, h.cell 2, h.cell 3⟩
theorem Blk.cells3 {w : World} {g : Nat} {t : TypeId} {a b c : Value} (h : Blk w g t #[a, b, c]) : w.cell? ⟨g, 0, none⟩ = some a ∧ w.cell? ⟨g, 1, none⟩ = some b ∧ w.cell? ⟨g, 2, none⟩ = some c := ⟨h.cell 0, h.cell 1, h.cell 2⟩
theorem Blk.set0 {w : World} {g : Nat} {t : TypeId} {v : Value} (h : Blk w g t #[v]) (u : Value) : Blk (w.setCell ⟨g, 0, none⟩ u) g t #[u] := h.set 0 u

/-- WHAT A ROUND KEEPS: what lay below the world w, and the iterator's own boxes. -/
def KpB (w : World) (bs : List Nat) (A B : World) : Prop := Below w.heap.size A B ∧ ∀ b ∈ bs, B.heap[b]? = A.heap[b]?
theorem kpB_t {w : World} {bs : List Nat} {A B C : World} (h : KpB w bs A B) (k : KpB w bs B C) : KpB w bs A C := ⟨h.1.trans k.1, fun b hb => (k.2 b hb).trans (h.2 b hb)⟩
theorem kpB_b {w w1 : World} {bs : List Nat} (hn : w.heap.size ≤ w1.heap.size) (hbs : ∀ b ∈ bs, b < w1.heap.size) (W : World) (l : Nat) (o o' : Obj) (hl : w1.heap.size ≤ l) (h : W.heap[l]? = some o) (hc : o.isCells = false) (hw : o.isWalk = false) : KpB w bs W (W.putObj l o') :=
  ⟨belowK_b hn W l o o' hl h hc hw, fun b hb => World.putObj_heap_other (by have := hbs b hb; omega)⟩
theorem kpB_refl (w : World) (bs : List Nat) (A : World) : KpB w bs A A := ⟨Below.refl _ _, fun _ _ => rfl⟩
theorem kpB_alloc {w : World} {bs : List Nat} {A B : World} (h : KpB w bs A B) (hw : Ext w A) (hbs : ∀ b ∈ bs, b < A.heap.size) (o : Obj) : KpB w bs A (B.alloc o) :=
  ⟨Below.alloc h.1 (Nat.le_trans hw.le h.1.size) o, fun b hb => (Below.heap_alloc B o b (Nat.lt_of_lt_of_le (hbs b hb) h.1.size)).trans (h.2 b hb)⟩
theorem kpB_ext {w : World} {bs : List Nat} {A B C : World} (h : KpB w bs A B) (hw : Ext w A) (hbs : ∀ b ∈ bs, b < A.heap.size) (x : Ext B C) : KpB w bs A C :=
  ⟨h.1.trans (Below.mono x (Nat.le_trans hw.le h.1.size)), fun b hb => (Below.block x b (Nat.lt_of_lt_of_le (hbs b hb) h.1.size)).trans (h.2 b hb)⟩
theorem kpB_set {w : World} {bs : List Nat} {A B : World} (h : KpB w bs A B) {p : Addr} (hp : w.heap.size ≤ p.block) (hbs : ∀ b ∈ bs, b ≠ p.block) (u : Value) : KpB w bs A (B.setCell p u) :=
  ⟨Below.setCell h.1 hp u, fun b hb => (Below.heap_setCell B p u b (hbs b hb)).trans (h.2 b hb)⟩

theorem keepsFrom_ext {B : Nat} {X Y Z : World} (h : KeepsFrom B X Y) (x : Ext Y Z) : KeepsFrom B X Z :=
  ⟨Nat.le_trans h.size x.le, fun k o hB hk ho => x.block (h.same k o hB hk ho)⟩

/-- What an iterator hands out, one behind the other, to whatever loop whose rounds keep what it reads. -/
def Yields (P : Program) {β : Type} (g : Nat) (lb : Array Value) (encs : β → Array Value) (ys : List β) (w : World) (bs : List Nat) (wc : World) : Prop :=
  SeqStopsK Fence.wide 5 P g lb encs (KpB w bs) (fun xs => xs = ys) (fun xs => xs <+: ys) ys.length wc

end Go.Proofs.Ythjgmccpbcelgaa
