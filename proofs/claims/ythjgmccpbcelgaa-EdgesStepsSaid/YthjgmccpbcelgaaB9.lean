/-
  The contract of edges.Steps, in the words of the printed ones.
-/
import Derived.Test.YthjgmccpbcelgaaA21
import Derived.Test.YthjgmccpbcelgaaB0
import Derived.Test.YthjgmccpbcelgaaWN
set_option linter.unusedVariables false
set_option linter.unusedSimpArgs false
namespace Go.Proofs.YthjgmccpbcelgaaPr
section
open Go Go.RowKit Go.Proofs.Ythjgmccpbcelgaa

def toEd (x : S76) : Go.Proofs.Ythjgmccpbcelgaa.Edge := ⟨x.f0, x.f1, x.f2, x.f3, x.f4⟩
def ofEd (x : Go.Proofs.Ythjgmccpbcelgaa.Edge) : S76 := ⟨x.kind, x.from_, x.to_, x.i, x.j⟩
theorem ofEd_toEd (x : S76) : ofEd (toEd x) = x := rfl
def stepOf (t : SE) : S50 := ⟨t.fr, t.to_, t.es.map ofEd⟩
def stepsE (lev : Int) (l : List S76) : List S50 := ((l.map toEd).flatMap (oneE lev (l.map toEd))).map stepOf
def edges_Steps.f (a0 : Int) (l1 : List (S76)) : Option ((List (S50))) := if (l1.length * (l1.length + 1)) * 40 ≤ 140737488351232 then some (stepsE a0 l1) else none
theorem edgs_of {w : World} {A : Option Addr} {l : List S76} (h : YthjgmccpbcelgaaW.PrintWords.Kd.C k76 w A l.length l) (hn : l.length ≤ 140737488351232) : Edgs w A l.length (l.map toEd) :=
  sl_of k76 (fun x => (toEd x).cs) (fun h => k76_open h) kEdge toEd rfl (by decide) (fun _ _ => rfl) h hn
theorem held_FK {B : Nat} {W : World} {b : BE} (h : Held B W b) {v : Value} {n : Nat} {xs : List Value} (hv : W.ownsRow B 50 3 v n xs) : YthjgmccpbcelgaaW.PrintWords.Kd.FK k50 W (fun k => B ≤ k ∧ some k ≠ v.ownBlock) (stepOf b.t) b.s.cs := by
  obtain ⟨h1, h2, h3⟩ := h
  have hR := r_of k76 76 Go.Proofs.Ythjgmccpbcelgaa.Edge.cs ofEd (fun w base ok y => k76_mkM w base ok (ofEd y)) (fun _ => rfl) h3
  have hN := YthjgmccpbcelgaaW.PrintWords.Kd.R_N (YthjgmccpbcelgaaW.PrintWords.Kd.R_tight rfl hR)
  obtain ⟨e1, e2, _⟩ := YthjgmccpbcelgaaW.PrintWords.Kd.N_reads' hN
  have hF := YthjgmccpbcelgaaW.PrintWords.Kd.F_mono (ok' := fun k => B ≤ k ∧ some k ≠ v.ownBlock) (YthjgmccpbcelgaaW.PrintWords.Kd.N_F hN) (fun k hk => by
    refine ⟨own_block h3 k hk.symm, fun he => ?_⟩
    obtain ⟨_, ⟨e3, _⟩ | ⟨g, cap, cur, e3, _, g4, _⟩⟩ := h3
    · rw [e3] at hk; cases hk
    · rw [e3] at hk
      exact blk_ne_row (w := W) (g := g) (t := 76) (cs := cur) g4 hv (by decide) (hk.symm.trans he))
  have hlen : b.s.len = (stepOf b.t).f2.length := e1
  have hcs : b.s.cs = [.int .i64 (stepOf b.t).f0, .int .i64 (stepOf b.t).f1, .slice b.s.ad (stepOf b.t).f2.length b.s.cap] := by
    rw [← hlen]
    show [Value.int .i64 b.s.fr, Value.int .i64 b.s.to_, _] = _
    rw [h1, h2]
    rfl
  rw [hcs]
  exact k50_mkF W _ (stepOf b.t) (by rw [← hlen]; exact e2) (by rw [← hlen]; exact hF)
theorem edges_Steps.calls (a0 : Int) (A1 : Option Addr) (c1 : Nat) (l1 : List (S76)) (r : List (S50)) (w : World) (hr1 : YthjgmccpbcelgaaW.PrintWords.Kd.C k76 w A1 l1.length l1) (hc1 : l1.length ≤ c1) (h : edges_Steps.f a0 l1 = some r) :
    Calls Try.prog 74 #[.int .i64 a0, .slice A1 l1.length c1] w fun e w' => ∃ v0_ : Value, e = .returned (v0_) ∧ YthjgmccpbcelgaaW.PrintWords.Kd.N k50 50 w' w.heap.size (fun k_ => (w.heap.size ≤ k_)) v0_ r ∧ Below w.heap.size w w' := by
  unfold edges_Steps.f at h
  split at h
  · rename_i hn
    injection h with h
    have hn2 : l1.length ≤ 140737488351232 := by
      have : l1.length * 1 ≤ l1.length * (l1.length + 1) := Nat.mul_le_mul_left _ (by omega)
      omega
    refine (e_steps w A1 l1.length c1 a0 (l1.map toEd) (edgs_of hr1 hn2) hn).mono fun e w' ⟨v, pre, he, hp, hI⟩ => ⟨v, he, ?_, hI.ext⟩
    have hr : r = pre.map (fun b => stepOf b.t) := by rw [← h]; unfold stepsE; rw [← hp, List.map_map]; rfl
    refine ⟨fun k hk => own_block hI.out k hk, (pre.map BE.s).map Stp.cs, by rw [hr]; simp, ?_, fun j x c hx hc => ?_⟩
    · exact YthjgmccpbcelgaaW.PrintWords.Kd.raw_tight (r_of (YthjgmccpbcelgaaW.PrintWords.Kd.raw 3) 50 Stp.cs Stp.cs (fun _ _ _ y => ⟨rfl, rfl, fun u hu => by simp [Stp.cs] at hu; rcases hu with rfl | rfl | rfl <;> rfl⟩) (fun _ => rfl) hI.out)
    · rw [hr, List.getElem?_map] at hx
      obtain ⟨b, hb1, rfl⟩ := Option.map_eq_some_iff.1 hx
      rw [List.map_map, List.getElem?_map, hb1] at hc
      injection hc with hc
      subst hc
      exact held_FK (hI.all b (List.mem_of_getElem? hb1)) hI.out
  · cases h
end
end Go.Proofs.YthjgmccpbcelgaaPr
