/-
  The program's edges.put and edges.Steps.
-/
import Derived.Test.YtebjiimlcnmfpaaGreatA20
import Derived.Test.YtebjiimlcnmfpaaGreatA12
set_option linter.unusedVariables false
set_option linter.unusedSimpArgs false
namespace Go.Proofs.YtebjiimlcnmfpaaGreat
section
open Go Go.RowKit Go.Proofs Go.Shelf
set_option linter.unusedSimpArgs false
set_option linter.unusedVariables false
attribute [local go_sem] Ext.alloc Ext.alloc2 Ext.alloc3 Ext.alloc4 Ext.drewN_alloc Ext.drewN_alloc2 Ext.drew_alloc Ext.drew Ext.drewN toList_beq
attribute [-go_sem] Builtin.append_

def kEdge : Kd Edge := Kd.flat 5 Edge.z Edge.cs (fun _ => rfl)
def enth (l : List Edge) (i : Nat) : Edge := l.getD i Edge.z
abbrev Edgs (w : World) (A : Option Addr) (n : Nat) (l : List Edge) : Prop := Sl kEdge w A n l
theorem Edgs.opn {w : World} {A : Option Addr} {n : Nat} {l : List Edge} (h : Edgs w A n l) (hn : 0 < n) : ∃ b o, A = some ⟨b, o, none⟩ ∧
    (∀ W i, Ext w W → i < n → W.cell? ⟨b, o + i * 5, none⟩ = some (.int .i64 (enth l i).kind)) ∧
    (∀ W i, Ext w W → i < n → W.cell? ⟨b, o + i * 5 + 1, none⟩ = some (.int .i64 (enth l i).from_)) ∧
    (∀ W i, Ext w W → i < n → W.cell? ⟨b, o + i * 5 + 2, none⟩ = some (.int .i64 (enth l i).to_)) ∧
    (∀ W i, Ext w W → i < n → W.cell? ⟨b, o + i * 5 + 3, none⟩ = some (.int .i64 (enth l i).i)) ∧
    (∀ W i, Ext w W → i < n → W.cell? ⟨b, o + i * 5 + 4, none⟩ = some (.int .i64 (enth l i).j)) := by
  obtain ⟨b, o, e, hg⟩ := h.get hn
  have hh : ∀ W i j u, Ext w W → i < n → (enth l i).cs[j]? = some u → W.cell? ⟨b, o + i * 5 + j, none⟩ = some u := fun W i j u hx hi hu => by
    obtain ⟨cs, hR, hc⟩ := hg i hi
    have hcs : cs = (enth l i).cs := hR
    exact hx.cell (hc j u (by rw [hcs]; exact hu))
  exact ⟨b, o, e, fun W i hx hi => hh W i 0 _ hx hi rfl, fun W i hx hi => hh W i 1 _ hx hi rfl, fun W i hx hi => hh W i 2 _ hx hi rfl, fun W i hx hi => hh W i 3 _ hx hi rfl, fun W i hx hi => hh W i 4 _ hx hi rfl⟩

/-- A step of the spec: whence, whither, by which edges. -/
structure SE where
  fr : Int
  to_ : Int
  es : List Edge
/-- A step as it lies in memory, and as the spec has it. -/
structure BE where
  s : Stp
  t : SE
def Held (B : Nat) (W : World) (b : BE) : Prop := b.s.fr = b.t.fr ∧ b.s.to_ = b.t.to_ ∧ W.ownsRow B 24 5 (.slice b.s.ad b.s.len b.s.cap) b.t.es.length (b.t.es.flatMap Edge.cs)
structure SInv (w : World) (v : Value) (pre : List BE) (W : World) : Prop where
  ext : Ext w W
  out : W.ownsRow w.heap.size 80 3 v (pre.map BE.s).length ((pre.map BE.s).flatMap Stp.cs)
  all : ∀ b ∈ pre, Held w.heap.size W b
theorem SInv.go {w W W' : World} {v : Value} {pre : List BE} (h : SInv w v pre W) (x : Ext W W') : SInv w v pre W' :=
  ⟨h.ext.trans x, own_ext h.out h.ext.le x, fun b hb => ⟨(h.all b hb).1, (h.all b hb).2.1, own_ext (h.all b hb).2.2 h.ext.le x⟩⟩
theorem own_other {W W' : World} {B B' : Nat} {e e' : TypeId} {sz sz' n m : Nat} {u v : Value} {xs ys : List Value} (hne : e ≠ e') (hu : W.ownsRow B e sz u n xs) (hv : W.ownsRow B' e' sz' v m ys) (hg : W.grownBy W' v.ownBlock) : W'.ownsRow B e sz u n xs := by
  refine YtebjiimlcnmfpaaGreatW.PrintWords.own_move hu (fun k hk => ?_)
  obtain ⟨_, ⟨rfl, _⟩ | ⟨g, cap, cur, rfl, h3, h4, h5⟩⟩ := hu
  · cases hk
  · have hgk : g = k := by simpa [Value.ownBlock] using hk
    subst hgk
    refine hg.block g (by have := Array.getElem?_eq_some_iff.1 h4; exact this.1) (fun he => ?_)
    obtain ⟨_, ⟨rfl, _⟩ | ⟨g', cap', cur', rfl, h3', h4', h5'⟩⟩ := hv
    · cases he
    · have hgk : g = g' := by simpa [Value.ownBlock] using he
      subst hgk
      rw [h4] at h4'
      injection h4' with h4'
      injection h4' with _ h4'
      exact hne h4'
theorem SInv.put {w W W' : World} {v v' : Value} {pre : List BE} (h : SInv w v pre W) (b : BE) (hb : Held w.heap.size W b) (hg : W.grownBy W' v.ownBlock) (ho : W'.ownsRow w.heap.size 80 3 v' (pre.map BE.s ++ [b.s]).length ((pre.map BE.s ++ [b.s]).flatMap Stp.cs)) : SInv w v' (pre ++ [b]) W' := by
  refine ⟨Ext.grown h.ext hg (own_block h.out), by rw [List.map_append]; exact ho, fun c hc => ?_⟩
  have hh : Held w.heap.size W c := by
    rcases List.mem_append.1 hc with hc | hc
    · exact h.all c hc
    · rw [List.mem_singleton.1 hc]; exact hb
  exact ⟨hh.1, hh.2.1, own_other (by decide) hh.2.2 h.out hg⟩
theorem Blk.row {W : World} {g : Nat} {t : TypeId} {e : Edge} (h : Blk W g t e.cs.toArray) : ∀ j u, e.cs[j]? = some u → W.cell? ⟨g, j, none⟩ = some u := fun j u hj => (h.cell j).trans (by rw [List.getElem?_toArray]; exact hj)
end
end Go.Proofs.YtebjiimlcnmfpaaGreat
