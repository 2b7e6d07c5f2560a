/-
  slices.IndexFunc at ints, for whatever function value; edges.of's search for a version.
-/
import Derived.Test.YthjgmccpbcelgaaA2
set_option linter.unusedVariables false
set_option linter.unusedSimpArgs false
namespace Go.Proofs.Ythjgmccpbcelgaa
section
open Go Go.RowKit Go.Proofs Go.Shelf
attribute [local go_sem] Ext.alloc Ext.alloc2 Ext.alloc3 Ext.alloc4 Ext.drewN_alloc Ext.drewN_alloc2 Ext.drew_alloc Ext.drew Ext.drewN toList_beq

def intCs (x : Int) : List Value := [.int .i64 x]
def kInt : Kd Int := Kd.flat 1 0 intCs (fun _ => rfl)
abbrev Nums (w : World) (A : Option Addr) (n : Nat) (l : List Int) : Prop := Sl kInt w A n l
def inth (l : List Int) (i : Nat) : Int := l.getD i 0
theorem Nums.opn {w : World} {A : Option Addr} {n : Nat} {l : List Int} (h : Nums w A n l) (hn : 0 < n) : ∃ b o, A = some ⟨b, o, none⟩ ∧ (∀ W i, Ext w W → i < n → W.cell? ⟨b, o + i, none⟩ = some (.int .i64 (inth l i))) := by
  obtain ⟨b, o, e, hg⟩ := h.get hn
  refine ⟨b, o, e, fun W i hx hi => ?_⟩
  obtain ⟨cs, hR, hc⟩ := hg i hi
  have hcs : cs = intCs (inth l i) := hR
  have := hx.cell (hc 0 (.int .i64 (inth l i)) (by rw [hcs]; rfl))
  simpa [kInt, Kd.flat] using this

set_option maxHeartbeats 1000000 in
theorem idxInt (g : Nat) (caps : Array Value) (p : Int → Bool) (w : World) (A : Option Addr) (n cap : Nat) (l : List Int) (hE : Nums w A n l)
    (eg : ∀ args w, (callFunc g args).run Try.prog w = .ok (.enter g args) w)
    (hg : ∀ (W : World) (k : Nat), k < n → Ext w W → Calls Try.prog g (#[.int .i64 (inth l k)] ++ caps) W fun e w' => e = .returned (.bool (p (inth l k))) ∧ Ext W w') :
    Calls Try.prog 130 #[.slice A n cap, .func (.func g) #[] caps] w fun e w' => e = .returned (.int .i64 (idx p l 0)) ∧ Ext w w' := by
  have hX := Ext.refl w
  have hl := hid (Sl.len hE)
  have hbig := hE.big
  have HG := hid hg
  clear hg
  go_enter Try.func130, Try.ntmps130
  go_wp2
  go_loopw [8] (fun i W => Ext w W ∧ ∃ k : Nat, k ≤ n ∧ i = .int .i64 k ∧ Hid (idx p (l.drop k) k = idx p l 0)) (fun i _ => n - (intOf i).toNat)
  case atStart => exact ⟨hX, 0, by omega, rfl, hid rfl⟩
  case round =>
    obtain ⟨hW, k, hk1, rfl, hr⟩ := hrel
    by_cases hlt : k < n
    · obtain ⟨b, o, rfl, h0⟩ := hE.opn (by omega)
      have hs := hid (drop_step l (0 : Int) (k := k) (by rw [hl.out]; omega))
      go_wp2
      refine (HG.out _ k hlt hW).mono ?_
      rintro e w1 ⟨rfl, hx1⟩
      cases hp : p (inth l k)
      · have hp' := hid hp; clear hp
        go_wp2
        go_roundw
        case rel => exact ⟨hW.trans hx1, k + 1, by omega, by go_num, hid (by rw [← hr.out, hs.out, idx_cons]; exact (if_neg (by rw [show l.getD k (0 : Int) = inth l k from rfl, hp'.out]; simp)).symm)⟩
        case measure => simp [intOf]; omega
      · have hp' := hid hp; clear hp
        go_wp2
        go_ret
        refine ⟨ret_int ?_, hW.trans hx1⟩
        rw [← hr.out, hs.out, idx_cons]
        exact (if_pos hp'.out).symm
    · go_wp2
      go_ret
      refine ⟨ret_int ?_, hW⟩
      rw [← hr.out, drop_end _ (by rw [hl.out]; omega)]
      rfl

set_option maxHeartbeats 1000000 in
theorem e_same (W : World) (b o n cap bh bi i k : Nat) (l : List Ev) (hE : Evs W (some ⟨b, o, none⟩) n l) (hh : W.cell? ⟨bh, 0, none⟩ = some (.slice (some ⟨b, o, none⟩) n cap)) (hc : W.cell? ⟨bi, 0, none⟩ = some (.int .i64 (i : Int))) (hi : i < n) (hk : k < n) :
    Calls Try.prog 131 #[.int .i64 (k : Int), .pointer (some ⟨bh, 0, none⟩), .pointer (some ⟨bi, 0, none⟩)] W fun e w' => e = .returned (.bool (decide ((nth l k).val = (nth l i).val))) ∧ Ext W w' := by
  have hX := Ext.refl W
  have hbig := hE.big
  obtain ⟨b', o', e', h0, h1, h2, h3⟩ := hE.opn (by omega)
  cases e'
  have hti := h3 W i hX hi
  have htk := h3 W k hX hk
  clear hE h0 h1 h2 h3
  go_enter Try.func131, Try.ntmps131
  go_wp2
  go_quiet (fail)
  go_wp2
  go_ret
  exact ⟨rfl, (by repeat (first | assumption | apply Ext.alloc | apply Ext.drewN | apply Ext.drew | (refine Ext.setCell (by simp <;> omega) ?_ _)))⟩
end
end Go.Proofs.Ythjgmccpbcelgaa
