/-
  Rows of steps and of numbers, read.
-/
import Derived.Test.YtebjiimlcnmfpaaGreatB1
/-! Rows of steps, read. -/
set_option linter.unusedVariables false
set_option linter.unusedSimpArgs false
namespace Go.Proofs.YtebjiimlcnmfpaaGreatPr
section
open Go.Proofs.YtebjiimlcnmfpaaGreat
open Go Go.RowKit

abbrev Stl := List S80
def sn (l : Stl) (i : Nat) : S80 := l.getD i z80
theorem rd_sn (l : Stl) (i : Nat) : rd_T80 l (i : Int) = sn l i := by unfold rd_T80 sn; rw [Int.toNat_natCast]
theorem sn_get {l : Stl} {i : Nat} (h : i < l.length) : sn l i = l[i] := by
  unfold sn
  rw [List.getD_eq_getElem?_getD, List.getElem?_eq_getElem h]; rfl
end
end Go.Proofs.YtebjiimlcnmfpaaGreatPr

/-! Rows of steps and of numbers as walks by hand read them. -/
namespace Go.Proofs.YtebjiimlcnmfpaaGreatPr
section
open Go.Proofs.YtebjiimlcnmfpaaGreat
open Go Go.RowKit

/-- A row of steps: where its numbers lie. -/
theorem stl_opn {w : World} {A : Option Addr} {l : Stl} (h : YtebjiimlcnmfpaaGreatW.PrintWords.Kd.C k80 w A l.length l) (hn : l.length ≤ 140737488351232) (h0 : 0 < l.length) : ∃ b o, A = some ⟨b, o, none⟩ ∧
    (∀ W i, Ext w W → i < l.length → W.cell? ⟨b, o + i * 3, none⟩ = some (.int .i64 (fr_ (sn l i)))) ∧ (∀ W i, Ext w W → i < l.length → W.cell? ⟨b, o + i * 3 + 1, none⟩ = some (.int .i64 (to_ (sn l i)))) := by
  obtain ⟨L, hL, hS⟩ := both (Q := k80.K w) (fun x c hx => by
    obtain ⟨A2, c2, hc, _, _⟩ := k80_open hx
    exact ⟨A2, c2, hc⟩) h hn
  have hlen : L.length = l.length := by rw [← hL]; simp
  have hat : ∀ i, i < l.length → (snth (L.map Bth.s) i).fr = fr_ (sn l i) ∧ (snth (L.map Bth.s) i).to_ = to_ (sn l i) := fun i hi => by
    have hLi : i < L.length := by omega
    have e1 : snth (L.map Bth.s) i = (L[i]).s := by unfold snth; simp [List.getElem?_eq_getElem hLi]
    have e2 : sn l i = (L[i]).t := by rw [sn_get hi]; simp only [← hL, List.getElem_map]
    rw [e1, e2]
    exact ⟨(L[i]).hf, (L[i]).ht⟩
  obtain ⟨b, o, e, q0, q1, _⟩ := hS.opn h0
  exact ⟨b, o, e, fun W i hx hi => by rw [q0 W i hx hi, (hat i hi).1], fun W i hx hi => by rw [q1 W i hx hi, (hat i hi).2]⟩
/-- A row of numbers of one's own, as the printed contracts read it. -/
theorem own_C {w : World} {base : Nat} {v : Value} {l : List Int} (h : w.ownsRow base 3 1 v l.length (l.flatMap intCs)) : ∃ A c, v = .slice A l.length c ∧ l.length ≤ c ∧ YtebjiimlcnmfpaaGreatW.PrintWords.Kd.C (YtebjiimlcnmfpaaGreatW.PrintWords.Kd.int .i64) w A l.length l := by
  have := r_of (YtebjiimlcnmfpaaGreatW.PrintWords.Kd.int .i64) 3 intCs (fun x => x) (fun _ _ _ _ => rfl) (fun _ => rfl) h
  exact YtebjiimlcnmfpaaGreatW.PrintWords.Kd.N_reads (YtebjiimlcnmfpaaGreatW.PrintWords.Kd.R_N (by simpa using this))
/-- A row that a printed contract hands out, as one of one's own. -/
theorem R_own {w : World} {base : Nat} {v : Value} {l : List Int} (h : YtebjiimlcnmfpaaGreatW.PrintWords.Kd.R (YtebjiimlcnmfpaaGreatW.PrintWords.Kd.int .i64) 3 w base (fun _ => True) v l) : w.ownsRow base 3 1 v l.length (l.flatMap intCs) := by
  obtain ⟨_, cells, h1, h2, h3⟩ := h
  have h1' : w.ownsRow base 3 1 v l.length cells := h1
  have e : cells = l.flatMap intCs := by
    have e2 : l.flatMap intCs = l.map (Value.int .i64) := by rw [List.map_eq_flatMap]; rfl
    have hl : (l.flatMap intCs).length = l.length := by rw [e2, List.length_map]
    refine List.ext_getElem? fun j => ?_
    rcases Nat.lt_or_ge j l.length with hj | hj
    · have := h3 j l[j] (List.getElem?_eq_getElem hj)
      have hm : (cells.drop (j * 1)).take 1 = [.int .i64 l[j]] := this
      have hc : cells.length = l.length := by have := h1'.1; omega
      rw [Nat.mul_one, List.drop_eq_getElem_cons (by omega), List.take_succ_cons, List.take_zero] at hm
      injection hm with hm
      rw [List.getElem?_eq_getElem (by omega), hm]
      rw [e2, List.getElem?_map, List.getElem?_eq_getElem hj]
      rfl
    · have hc : cells.length = l.length := by have := h1'.1; omega
      rw [List.getElem?_eq_none (by omega), List.getElem?_eq_none (by omega)]
  rw [e] at h1'
  exact h1'
/-- A row of one's own behind a row of another block that has grown. -/
theorem own_apart {w w1 : World} {base : Nat} {e : TypeId} {sz n : Nat} {v : Value} {xs : List Value} {row : Option Nat} (h : w.ownsRow base e sz v n xs) (hg : w.grownBy w1 row) (ha : ∀ k, v.ownBlock = some k → row ≠ some k) : w1.ownsRow base e sz v n xs :=
  YtebjiimlcnmfpaaGreatW.PrintWords.own_move h (fun k hk => hg.block k (YtebjiimlcnmfpaaGreatW.PrintWords.own_lt h k hk) (fun z => ha k hk z.symm))
/-- Numbers appended to a row of one's own; the source may be nil. -/
theorem app_nums {W : World} {base : Nat} {v : Value} {pre : List Int} (hown : W.ownsRow base 3 1 v pre.length (pre.flatMap intCs)) (hbase : base ≤ W.heap.size) {A : Option Addr} {n : Nat} {l : List Int} (hN : Nums W A n l) (c : Nat) (hb : (pre.length + n) * 8 ≤ 140737488355328) (ty : TypeId) :
    ∃ v' w', (Builtin.append_ #[31, 31] ty #[v, .slice A n c]).run Tryz.prog W = .ok v' w' ∧ w'.ownsRow base 3 1 v' (pre ++ l).length ((pre ++ l).flatMap intCs) ∧ W.grownBy w' v.ownBlock ∧ (v'.ownBlock = v.ownBlock ∨ v'.ownBlock = some W.heap.size) := by
  obtain ⟨i0, hi, hz0, hz1, hz2⟩ := info_parts infoI
  have hl := hN.len
  cases A with
  | none =>
    have hn0 : n = 0 := by
      rcases Nat.eq_zero_or_pos n with h | h
      · exact h
      · obtain ⟨_, _, e, _⟩ := hN.get h; cases e
    subst hn0
    obtain rfl : l = [] := List.eq_nil_of_length_eq_zero hl
    refine ⟨v, W, ?_, by simpa using hown, ⟨rfl, rfl, rfl, Nat.le_refl _, fun _ _ _ => rfl⟩, .inl rfl⟩
    rcases hown.2 with ⟨rfl, h0⟩ | ⟨g, cap, cur, rfl, _, _, hnc, _⟩
    · simp [Builtin.append_, run_underlying Tryz.underlying31, sizeOf, typeInfo, hi, Builtin.lenOf, Builtin.firstCells]
    · simp [Builtin.append_, run_underlying Tryz.underlying31, sizeOf, typeInfo, hi, Builtin.lenOf, Builtin.firstCells, hnc, storeCells]
  | some ad =>
    subst hl
    obtain ⟨v', w', h1, h2, h3, _, h5⟩ := run_append_own_at (P := Tryz.prog) (w := W) base 31 ty 3 i0 _ 1 8 Tryz.underlying31 hi hz0 hz1 hz2 rfl (by decide) v pre.length _ hown ad l.length c (l.flatMap intCs)
      (by rw [i_flat]; simp) (fun j u hj => by
        rw [i_flat, List.getElem?_map] at hj
        obtain ⟨x, hx, rfl⟩ := Option.map_eq_some_iff.1 hj
        have hjl := (List.getElem?_eq_some_iff.1 hx).1
        obtain ⟨b, o, e, hc⟩ := hN.opn (by omega)
        cases e
        rw [add_flat]
        have := hc W j (Ext.refl W) hjl
        rw [this]
        unfold inth
        rw [List.getD_eq_getElem?_getD, hx]; rfl) (fun u hu => by
        obtain ⟨x, _, hx⟩ := List.mem_flatMap.1 hu
        simp [intCs] at hx; rcases hx with rfl; rfl) (by unfold maxLen; omega) hb hbase
    refine ⟨v', w', h1, ?_, h3, h5⟩
    rw [List.length_append, List.flatMap_append]
    exact h2
theorem C_go {α : Type} {d : YtebjiimlcnmfpaaGreatW.PrintWords.Kd α} {w W : World} {A : Option Addr} {n : Nat} {xs : List α} (h : YtebjiimlcnmfpaaGreatW.PrintWords.Kd.C d w A n xs) (x : Ext w W) : YtebjiimlcnmfpaaGreatW.PrintWords.Kd.C d W A n xs := YtebjiimlcnmfpaaGreatW.PrintWords.Kd.C_below h x
end
end Go.Proofs.YtebjiimlcnmfpaaGreatPr
