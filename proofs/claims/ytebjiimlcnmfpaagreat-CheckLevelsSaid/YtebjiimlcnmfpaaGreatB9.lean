/-
  The contract of edges.Steps, in the words of the printed ones.
-/
import Derived.Test.YtebjiimlcnmfpaaGreatA21
import Derived.Test.YtebjiimlcnmfpaaGreatB0
import Derived.Test.YtebjiimlcnmfpaaGreatWMore
set_option linter.unusedVariables false
set_option linter.unusedSimpArgs false
namespace Go.Proofs.YtebjiimlcnmfpaaGreatPr
section
open Go Go.RowKit Go.Proofs.YtebjiimlcnmfpaaGreat

def toEd (x : S24) : Go.Proofs.YtebjiimlcnmfpaaGreat.Edge := ⟨x.f0, x.f1, x.f2, x.f3, x.f4⟩
def ofEd (x : Go.Proofs.YtebjiimlcnmfpaaGreat.Edge) : S24 := ⟨x.kind, x.from_, x.to_, x.i, x.j⟩
theorem ofEd_toEd (x : S24) : ofEd (toEd x) = x := rfl
def stepOf (t : SE) : S80 := ⟨t.fr, t.to_, t.es.map ofEd⟩
def stepsE (lev : Int) (l : List S24) : List S80 := ((l.map toEd).flatMap (oneE lev (l.map toEd))).map stepOf
def edges_Steps.f (a0 : Int) (l1 : List (S24)) : Option ((List (S80))) := if (l1.length * (l1.length + 1)) * 40 ≤ 140737488351232 then some (stepsE a0 l1) else none
theorem edgs_of {w : World} {A : Option Addr} {l : List S24} (h : YtebjiimlcnmfpaaGreatW.PrintWords.Kd.C k24 w A l.length l) (hn : l.length ≤ 140737488351232) : Edgs w A l.length (l.map toEd) :=
  sl_of k24 (fun x => (toEd x).cs) (fun h => k24_open h) kEdge toEd rfl (by decide) (fun _ _ => rfl) h hn
theorem held_FK {B : Nat} {W : World} {b : BE} (h : Held B W b) {v : Value} {n : Nat} {xs : List Value} (hv : W.ownsRow B 80 3 v n xs) : YtebjiimlcnmfpaaGreatW.PrintWords.Kd.FK k80 W (fun k => B ≤ k ∧ some k ≠ v.ownBlock) (stepOf b.t) b.s.cs := by
  obtain ⟨h1, h2, h3⟩ := h
  have hR := r_of k24 24 Go.Proofs.YtebjiimlcnmfpaaGreat.Edge.cs ofEd (fun w base ok y => k24_mkM w base ok (ofEd y)) (fun _ => rfl) h3
  have hN := YtebjiimlcnmfpaaGreatW.PrintWords.Kd.R_N (YtebjiimlcnmfpaaGreatW.PrintWords.Kd.R_tight rfl hR)
  obtain ⟨e1, e2, _⟩ := YtebjiimlcnmfpaaGreatW.PrintWords.Kd.N_reads' hN
  have hF := YtebjiimlcnmfpaaGreatW.PrintWords.Kd.F_mono (ok' := fun k => B ≤ k ∧ some k ≠ v.ownBlock) (YtebjiimlcnmfpaaGreatW.PrintWords.Kd.N_F hN) (fun k hk => by
    refine ⟨own_block h3 k hk.symm, fun he => ?_⟩
    obtain ⟨_, ⟨e3, _⟩ | ⟨g, cap, cur, e3, _, g4, _⟩⟩ := h3
    · rw [e3] at hk; cases hk
    · rw [e3] at hk
      exact blk_ne_row (w := W) (g := g) (t := 24) (cs := cur) g4 hv (by decide) (hk.symm.trans he))
  have hlen : b.s.len = (stepOf b.t).f2.length := e1
  have hcs : b.s.cs = [.int .i64 (stepOf b.t).f0, .int .i64 (stepOf b.t).f1, .slice b.s.ad (stepOf b.t).f2.length b.s.cap] := by
    rw [← hlen]
    show [Value.int .i64 b.s.fr, Value.int .i64 b.s.to_, _] = _
    rw [h1, h2]
    rfl
  rw [hcs]
  exact k80_mkF W _ (stepOf b.t) (by rw [← hlen]; exact e2) (by rw [← hlen]; exact hF)
theorem edges_Steps.calls (a0 : Int) (A1 : Option Addr) (c1 : Nat) (l1 : List (S24)) (r : List (S80)) (w : World) (hr1 : YtebjiimlcnmfpaaGreatW.PrintWords.Kd.C k24 w A1 l1.length l1) (hc1 : l1.length ≤ c1) (h : edges_Steps.f a0 l1 = some r) :
    Calls Tryz.prog 65 #[.int .i64 a0, .slice A1 l1.length c1] w fun e w' => ∃ v0_ : Value, e = .returned (v0_) ∧ YtebjiimlcnmfpaaGreatW.PrintWords.Kd.N k80 80 w' w.heap.size (fun k_ => (w.heap.size ≤ k_)) v0_ r ∧ Below w.heap.size w w' := by
  unfold edges_Steps.f at h
  split at h
  · rename_i hn
    injection h with h
    have hn2 : l1.length ≤ 140737488351232 := by
      have : l1.length * 1 ≤ l1.length * (l1.length + 1) := Nat.mul_le_mul_left _ (by omega)
      omega
    refine (e_steps w A1 l1.length c1 a0 (l1.map toEd) (edgs_of hr1 hn2) hn).mono fun e w' ⟨v, pre, he, hp, hI⟩ => ⟨v, he, ?_, hI.ext⟩
    have hr : r = pre.map (fun b => stepOf b.t) := by rw [← h]; unfold stepsE; rw [← hp, List.map_map]; rfl
    refine ⟨fun k hk => own_block hI.out k hk, (pre.map BE.s).map Stp.cs, by rw [hr]; simp, ?_, fun j x c hx hc => ?_⟩
    · exact YtebjiimlcnmfpaaGreatW.PrintWords.Kd.raw_tight (r_of (YtebjiimlcnmfpaaGreatW.PrintWords.Kd.raw 3) 80 Stp.cs Stp.cs (fun _ _ _ y => ⟨rfl, rfl, fun u hu => by simp [Stp.cs] at hu; rcases hu with rfl | rfl | rfl <;> rfl⟩) (fun _ => rfl) hI.out)
    · rw [hr, List.getElem?_map] at hx
      obtain ⟨b, hb1, rfl⟩ := Option.map_eq_some_iff.1 hx
      rw [List.map_map, List.getElem?_map, hb1] at hc
      injection hc with hc
      subst hc
      exact held_FK (hI.all b (List.mem_of_getElem? hb1)) hI.out
  · cases h
end
end Go.Proofs.YtebjiimlcnmfpaaGreatPr
