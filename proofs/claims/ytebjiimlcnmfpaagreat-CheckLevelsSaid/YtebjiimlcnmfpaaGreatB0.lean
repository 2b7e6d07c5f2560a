/-
  Rows as the printed contracts read them; slices among the arguments; edges and steps, opened.
-/
import Derived.Test.YtebjiimlcnmfpaaGreatPr0
import Derived.Test.YtebjiimlcnmfpaaGreatA1
import Derived.Test.YtebjiimlcnmfpaaGreatA8
/-! Rows as the printed contracts read them, and as the walks by hand read them. -/
set_option linter.unusedVariables false
set_option linter.unusedSimpArgs false
namespace Go.Proofs.YtebjiimlcnmfpaaGreatPr
open Go.Proofs.YtebjiimlcnmfpaaGreat
section
open Go Go.RowKit

theorem add_flat (b o m : Nat) : (⟨b, o, none⟩ : Addr).add m = ⟨b, o + m, none⟩ := by unfold Addr.add; split <;> simp_all
theorem spot_none {w : World} {ad : Addr} {v : Value} (h : w.cell? ad = some v) : ad.spot = none := by
  unfold World.cell? at h
  split at h
  · split at h
    · cases h
    · rename_i hs
      simpa using hs
  · cases h
/-- A row that is read, in the words of the walks by hand. -/
theorem sl_of {α β : Type} (d : YtebjiimlcnmfpaaGreatW.PrintWords.Kd α) (c : α → List Value) (hK : ∀ {w x cs}, d.K w x cs → cs = c x) (k : Go.Proofs.YtebjiimlcnmfpaaGreat.Kd β) (f : α → β) (hsz : k.sz = d.sz) (hpos : 0 < d.sz) (hR : ∀ w x, k.R w (f x) (c x))
    {w : World} {A : Option Addr} {n : Nat} {xs : List α} (h : YtebjiimlcnmfpaaGreatW.PrintWords.Kd.C d w A n xs) (hn : n ≤ 140737488351232) : Sl k w A n (xs.map f) := by
  obtain ⟨hl, _, hg⟩ := h
  refine ⟨by simpa using hl, hn, fun hp => ?_⟩
  obtain ⟨ad, rfl, hc⟩ := hg hp
  have h0 : ad.spot = none := by
    obtain ⟨cs, h1, h2, h3⟩ := hc 0 _ (List.getElem?_eq_getElem (by omega))
    have h4 := h3 0 _ (List.getElem?_eq_getElem (by omega))
    have h5 : ad.add (0 * d.sz + 0) = ad := by simp [Addr.add]
    rw [h5] at h4
    exact spot_none h4
  obtain ⟨b, o, s⟩ := ad
  obtain rfl : s = none := h0
  refine ⟨b, o, rfl, fun i hi => ?_⟩
  obtain ⟨cs, h1, h2, h3⟩ := hc i _ (List.getElem?_eq_getElem (by omega))
  obtain rfl := hK h2
  refine ⟨c xs[i], ?_, fun j u hu => ?_⟩
  · have e : (xs.map f).getD i k.z = f xs[i] := by simp [List.getD_eq_getElem?_getD, List.getElem?_eq_getElem (show i < xs.length by omega)]
    rw [e]
    exact hR _ _
  · have h4 := h3 j u hu
    rw [add_flat] at h4
    rw [hsz, Nat.add_assoc]
    exact h4

theorem flat_drop {β : Type} {c : β → List Value} {m : Nat} (hlen : ∀ y, (c y).length = m) : ∀ (ys : List β) (j : Nat) (y : β), ys[j]? = some y → ((ys.flatMap c).drop (j * m)).take m = c y
  | [], j, y, h => by simp at h
  | x :: r, 0, y, h => by
    obtain rfl : x = y := by simpa using h
    simp only [List.flatMap_cons, Nat.zero_mul, List.drop_zero]
    rw [List.take_append_of_le_length (by rw [hlen]; omega), List.take_of_length_le (by rw [hlen]; omega)]
  | x :: r, j + 1, y, h => by
    have h' : r[j]? = some y := by simpa using h
    have e : (j + 1) * m = (c x).length + j * m := by rw [hlen, Nat.add_mul]; omega
    simp only [List.flatMap_cons]
    rw [e, List.drop_append, List.drop_of_length_le (by omega), List.nil_append, show (c x).length + j * m - (c x).length = j * m by omega]
    exact flat_drop hlen r j y h'
theorem flat_len {β : Type} {c : β → List Value} {m : Nat} (hlen : ∀ y, (c y).length = m) : ∀ (ys : List β), (ys.flatMap c).length = ys.length * m
  | [] => by simp
  | x :: r => by simp only [List.flatMap_cons, List.length_append, List.length_cons, hlen, flat_len hlen r, Nat.add_mul]; omega
/-- A row of the call's own, in the printed words. -/
theorem r_of {α β : Type} (d : YtebjiimlcnmfpaaGreatW.PrintWords.Kd α) (e : Nat) (c : β → List Value) (g : β → α) (hM : ∀ w base ok (y : β), d.M w base ok (g y) (c y)) (hlen : ∀ y, (c y).length = d.sz)
    {w : World} {base : Nat} {v : Value} {ys : List β} (h : w.ownsRow base e d.sz v ys.length (ys.flatMap c)) : YtebjiimlcnmfpaaGreatW.PrintWords.Kd.R d e w base (fun _ => True) v (ys.map g) := by
  refine ⟨fun _ _ => trivial, ys.flatMap c, by simpa using h, by rw [flat_len hlen, List.length_map], fun j p hj => ?_⟩
  rw [List.getElem?_map] at hj
  obtain ⟨y, hy, rfl⟩ := Option.map_eq_some_iff.1 hj
  rw [flat_drop hlen ys j y hy]
  exact hM _ _ _ _

/-! ### events -/
def toEv (x : S50) : Ev := ⟨x.f0, x.f1, x.f2, x.f3⟩
def evs (l : List S50) : List Ev := l.map toEv
theorem evs_len (l : List S50) : (evs l).length = l.length := by simp [evs]
theorem evs_of {w : World} {A : Option Addr} {n : Nat} {xs : List S50} (h : YtebjiimlcnmfpaaGreatW.PrintWords.Kd.C k50 w A n xs) (hn : n ≤ 140737488351232) : Evs w A n (evs xs) :=
  sl_of k50 (fun x => (toEv x).cs) (fun h => k50_open h) kEv toEv rfl (by decide) (fun _ _ => rfl) h hn

end
end Go.Proofs.YtebjiimlcnmfpaaGreatPr

/-! For the rows: slices among the arguments, read as the printed contracts read them. -/
namespace Go.Proofs.YtebjiimlcnmfpaaGreatPr
open Go.Proofs.YtebjiimlcnmfpaaGreat
section
open Go Go.RowKit Go.Proofs Go.ChangeShapes Go.WideShapes Go.Deep
set_option linter.unusedSimpArgs false
set_option linter.unusedVariables false

section
variable {H : Type} {enc : TypeId × Value → H} {P : Program} {w : World} {base : Nat} {spare : Nat → Bool} {held : Bool}

theorem choose_row {α : Type} (R : Nat → α → Prop) : ∀ n, (∀ i, i < n → ∃ x, R i x) → ∃ l : List α, l.length = n ∧ ∀ i x, l[i]? = some x → R i x
  | 0, _ => ⟨[], rfl, fun i x hi => by simp at hi⟩
  | n + 1, h => by
    obtain ⟨l, hl, hg⟩ := choose_row R n fun i hi => h i (by omega)
    obtain ⟨x, hx⟩ := h n (by omega)
    refine ⟨l ++ [x], by simp [hl], fun i y hy => ?_⟩
    by_cases e : i < n
    · rw [List.getElem?_append_left (by omega)] at hy
      exact hg i y hy
    · have hi : i < (l ++ [x]).length := (List.getElem?_eq_some_iff.1 hy).1
      rw [List.length_append, List.length_singleton] at hi
      obtain rfl : i = n := by omega
      rw [List.getElem?_append_right (by omega), hl] at hy
      obtain rfl : x = y := by simpa using hy
      exact hx

/-- A slice, by its cells, as a list of what its elements are read as. -/
theorem cells_C {α : Type} (d : YtebjiimlcnmfpaaGreatW.PrintWords.Kd α) (Q : α → Prop) {t e : TypeId} {A : Option Addr} {n cap fuel : Nat} {x : DataW H × List MemPlace}
    (ht : P.underlying t = some (.slice e)) (hC : P.cellsOf e = d.sz)
    (hk : ∀ m cs x, DataW.trod enc P w base spare held m e cs = some x → cs.length = d.sz → ∃ v, d.K w v cs ∧ Q v)
    (h : DataW.trod enc P w base spare held fuel t [.slice A n cap] = some x) : ∃ l : List α, l.length = n ∧ n ≤ cap ∧ YtebjiimlcnmfpaaGreatW.PrintWords.Kd.C d w A l.length l ∧ ∀ y ∈ l, Q y := by
  rcases open_slice ht h with ⟨hcs, _⟩ | ⟨a, len, cap', m, f, D, Pl, hcs, hb, hl, hm, hmm, hx, hi⟩
  · simp at hcs
    obtain ⟨rfl, rfl, rfl⟩ := hcs
    exact ⟨[], rfl, Nat.le_refl _, ⟨rfl, by simp, fun hn => by simp at hn⟩, fun y hy => by cases hy⟩
  · simp at hcs
    obtain ⟨rfl, rfl, rfl⟩ := hcs
    have hnm : n ≤ m := by rw [hmm]; split <;> omega
    have hch : ∀ i, i < n → ∃ y, (Q y ∧ ∃ cs, cs.length = d.sz ∧ d.K w y cs ∧ ∀ j u, cs[j]? = some u → w.cell? (a.add (i * d.sz + j)) = some u) := fun i hin => by
      obtain ⟨cs', hc, ht'⟩ := hi i (by omega)
      rw [hC] at hc
      obtain ⟨_, hcl, hat⟩ := World.cells?_some hc
      obtain ⟨v, hR, hQ⟩ := hk f cs' _ ht' hcl
      refine ⟨v, hQ, cs', hcl, hR, fun j u hu => ?_⟩
      have hj : j < d.sz := by rw [← hcl]; exact (List.getElem?_eq_some_iff.1 hu).1
      rw [← Go.Deep.add_add, hat j hj, hu]
    obtain ⟨l, hl', hg⟩ := choose_row _ n hch
    refine ⟨l, hl', hl, ⟨rfl, by simp only [maxLen] at hm; omega, fun hn => ⟨a, rfl, fun j p hp => ?_⟩⟩, fun y hy => ?_⟩
    · obtain ⟨_, cs, h1, h2, h3⟩ := hg j p hp
      exact ⟨cs, h1, h2, h3⟩
    · obtain ⟨i, hi', rfl⟩ := List.getElem_of_mem hy
      exact (hg i _ (List.getElem?_eq_getElem hi')).1

/-- A slice that is an argument; how long it may be. -/
theorem trod_C {α : Type} (d : YtebjiimlcnmfpaaGreatW.PrintWords.Kd α) (Q : α → Prop) {t e : TypeId} {A : Option Addr} {n cap : Nat} {D : DataW H} {ps : List MemPlace} {ts : List TypeId} {ds : List (DataW H)} {j : Nat} {B : Nat}
    (hsz : (DataW.weightsEach P ts ds).all (· ≤ reachBytes) = true) (hts : ts[j]? = some t) (hd : ds[j]? = some D)
    (ht : P.underlying t = some (.slice e)) (hC : P.cellsOf e = d.sz) (hB : P.bytesOf e = B)
    (hk : ∀ m cs x, DataW.trod enc P w base spare held m e cs = some x → cs.length = d.sz → ∃ v, d.K w v cs ∧ Q v)
    (h : DataW.Trod enc P w base spare held t (.slice A n cap) D ps) : ∃ l : List α, l.length = n ∧ n ≤ cap ∧ YtebjiimlcnmfpaaGreatW.PrintWords.Kd.C d w A l.length l ∧ (∀ y ∈ l, Q y) ∧ l.length * B ≤ 140737488351232 := by
  obtain ⟨fuel, hf⟩ := h
  have hbig : n * B ≤ 140737488351232 := by
    rcases open_slice ht hf with ⟨hcs, _⟩ | ⟨a, len, cap', m, f, D', Pl, hcs, hb, hl, hm, hmm, hx, hi⟩
    · simp [Value.cells] at hcs
      obtain ⟨rfl, rfl, rfl⟩ := hcs
      simp
    · simp [Value.cells] at hcs
      obtain ⟨rfl, rfl, rfl⟩ := hcs
      obtain ⟨hx, _⟩ := Prod.mk.inj hx
      subst hx
      have z := sized_slice hsz hts hd ht
      rw [hB] at z
      simp only [List.length_map, List.length_range] at z
      have : n ≤ n + (m - n) := by omega
      exact Nat.le_trans (Nat.mul_le_mul_right _ this) z
  simp only [Value.cells] at hf
  obtain ⟨l, h1, h2, h3, h4⟩ := cells_C d Q ht hC hk hf
  exact ⟨l, h1, h2, h3, h4, by rw [h1]; exact hbig⟩
end

/-- What of an event is sure. -/
def EvS (x : S50) : Prop := (Lit.int .i64 x.f0).wf = true ∧ (Lit.int .i64 x.f1).wf = true ∧ x.f2.size ≤ maxLen ∧ x.f3.size ≤ maxLen
theorem trod_evS {H : Type} {enc : TypeId × Value → H} {base : Nat} {spare : Nat → Bool} {held : Bool} {W : World} (m : Nat) (cs : List Value) (x : DataW H × List MemPlace)
    (h : DataW.trod enc Tryz.prog W base spare held m 50 cs = some x) (hc : cs.length = k50.sz) : ∃ v, k50.K W v cs ∧ EvS v := by
  obtain ⟨v, hv, q1, q2, q3, q4⟩ := trod_ev W m cs x h hc
  have e : cs = v.cs := hv
  rw [e]
  exact ⟨⟨v.kind, v.txn, v.key, v.val⟩, k50_mk W ⟨v.kind, v.txn, v.key, v.val⟩, q1, q2, q3, q4⟩

def IntS (x : Int) : Prop := (Lit.int .i64 x).wf = true
theorem trod_intS {H : Type} {enc : TypeId × Value → H} {base : Nat} {spare : Nat → Bool} {held : Bool} {W : World} (m : Nat) (cs : List Value) (x : DataW H × List MemPlace)
    (h : DataW.trod enc Tryz.prog W base spare held m 3 cs = some x) (hc : cs.length = (YtebjiimlcnmfpaaGreatW.PrintWords.Kd.int .i64).sz) : ∃ v, (YtebjiimlcnmfpaaGreatW.PrintWords.Kd.int .i64).K W v cs ∧ IntS v := by
  obtain ⟨a, e, _, w0⟩ := DataW.trod_int (k := .i64) (by kernel_rfl) h
  exact ⟨a, e, w0⟩

end
end Go.Proofs.YtebjiimlcnmfpaaGreatPr

/-! A row's slice of edges, opened. -/
namespace Go.Proofs.YtebjiimlcnmfpaaGreatPr
section
open Go.Proofs.YtebjiimlcnmfpaaGreat
section
open Go Go.RowKit Go.ChangeShapes Go.WideShapes Go.ChangeAt

/-- What of an edge is sure. -/
def EdgeS (x : S24) : Prop := (Lit.int .i64 x.f0).wf = true ∧ (Lit.int .i64 x.f1).wf = true ∧ (Lit.int .i64 x.f2).wf = true ∧ (Lit.int .i64 x.f3).wf = true ∧ (Lit.int .i64 x.f4).wf = true
set_option maxRecDepth 100000 in
theorem trod_edgeS {H : Type} {enc : TypeId × Value → H} {base : Nat} {spare : Nat → Bool} {held : Bool} {W : World} (m : Nat) (cs : List Value) (x : DataW H × List MemPlace)
    (h : DataW.trod enc Tryz.prog W base spare held m 24 cs = some x) (hc : cs.length = k24.sz) : ∃ v, k24.K W v cs ∧ EdgeS v := by
  obtain ⟨xs, n, _, _, _, hl, hg⟩ := DataW.trod_struct (Tryz.underlying24) h
  have hc5 : cs.length = 5 := hc.trans (by first | rfl | kernel_rfl)
  clear hc
  match cs, hc5 with
  | [c0, c1, c2, c3, c4], _ =>
    have g0 := hg 0 _ rfl
    have g1 := hg 1 _ rfl
    have g2 := hg 2 _ rfl
    have g3 := hg 3 _ rfl
    have g4 := hg 4 _ rfl
    match xs, hl with
    | [y0, y1, y2, y3, y4], _ =>
      obtain ⟨a0, e0, _, w0⟩ := DataW.trod_int (k := .i64) (by kernel_rfl) g0
      obtain ⟨a1, e1, _, w1⟩ := DataW.trod_int (k := .i64) (by kernel_rfl) g1
      obtain ⟨a2, e2, _, w2⟩ := DataW.trod_int (k := .i64) (by kernel_rfl) g2
      obtain ⟨a3, e3, _, w3⟩ := DataW.trod_int (k := .i64) (by kernel_rfl) g3
      obtain ⟨a4, e4, _, w4⟩ := DataW.trod_int (k := .i64) (by kernel_rfl) g4
      have h1 : Tryz.prog.cellsOf 3 = 1 := by kernel_rfl
      simp [h1] at e0 e1 e2 e3 e4
      subst e0; subst e1; subst e2; subst e3; subst e4
      exact ⟨⟨a0, a1, a2, a3, a4⟩, k24_mk W ⟨a0, a1, a2, a3, a4⟩, w0, w1, w2, w3, w4⟩
end
end
end Go.Proofs.YtebjiimlcnmfpaaGreatPr

/-! A row's slice of steps, opened. -/
namespace Go.Proofs.YtebjiimlcnmfpaaGreatPr
section
open Go.Proofs.YtebjiimlcnmfpaaGreat
section
open Go Go.RowKit Go.ChangeShapes Go.WideShapes Go.ChangeAt

/-- What of a step is sure. -/
def StepS (x : S80) : Prop := IntS x.f0 ∧ IntS x.f1 ∧ x.f2.length ≤ 9223372036854775807
set_option maxRecDepth 100000 in
theorem trod_stepS {H : Type} {enc : TypeId × Value → H} {base : Nat} {spare : Nat → Bool} {held : Bool} {W : World} (m : Nat) (cs : List Value) (x : DataW H × List MemPlace)
    (h : DataW.trod enc Tryz.prog W base spare held m 80 cs = some x) (hc : cs.length = k80.sz) : ∃ v, k80.K W v cs ∧ StepS v := by
  obtain ⟨xs, n, _, _, _, hl, hg⟩ := DataW.trod_struct (Tryz.underlying80) h
  have hc3 : cs.length = 3 := hc.trans (by first | rfl | kernel_rfl)
  clear hc
  match cs, hc3 with
  | [c0, c1, c2], _ =>
    have g0 := hg 0 _ rfl
    have g1 := hg 1 _ rfl
    have g2 := hg 2 _ rfl
    match xs, hl with
    | [y0, y1, y2], _ =>
      obtain ⟨a0, e0, _, w0⟩ := DataW.trod_int (k := .i64) (by kernel_rfl) g0
      obtain ⟨a1, e1, _, w1⟩ := DataW.trod_int (k := .i64) (by kernel_rfl) g1
      have h1 : Tryz.prog.cellsOf 3 = 1 := by kernel_rfl
      have h2 : Tryz.prog.cellsOf 28 = 1 := by kernel_rfl
      simp [h1] at e0 e1
      subst e0; subst e1
      have e2 : ∃ A N C, c2 = .slice A N C := by
        simp [h1, h2] at g2
        rcases Go.Deep.open_slice Tryz.underlying28 g2 with ⟨hcs, _⟩ | ⟨a, len, cap', m, f, D, Pl, hcs, _⟩
        · exact ⟨_, _, _, by simpa using hcs⟩
        · exact ⟨_, _, _, by simpa using hcs⟩
      obtain ⟨A2, N2, C2, rfl⟩ := e2
      simp [h1, h2] at g2
      obtain ⟨l2, z1, z2, z3, _⟩ := cells_C k24 EdgeS Tryz.underlying28 (by kernel_rfl) trod_edgeS g2
      subst z1
      exact ⟨⟨a0, a1, l2⟩, k80_mk W ⟨a0, a1, l2⟩ z2 z3, w0, w1, z3.2.1⟩
end
end
end Go.Proofs.YtebjiimlcnmfpaaGreatPr

namespace Go.Proofs.YtebjiimlcnmfpaaGreatPr
open Go Go.RowKit Go.Proofs.YtebjiimlcnmfpaaGreat
theorem rd_ev (xs : List S50) (i : Int) : toEv (rd_T50 xs i) = nth (evs xs) i.toNat := by
  unfold rd_T50 nth evs
  rw [List.getD_eq_getElem?_getD, List.getD_eq_getElem?_getD, List.getElem?_map]
  cases xs[i.toNat]? <;> rfl
theorem rd_f0 (xs : List S50) (i : Int) : (rd_T50 xs i).f0 = (nth (evs xs) i.toNat).kind := congrArg Ev.kind (rd_ev xs i)
theorem rd_f1 (xs : List S50) (i : Int) : (rd_T50 xs i).f1 = (nth (evs xs) i.toNat).txn := congrArg Ev.txn (rd_ev xs i)
theorem rd_f2 (xs : List S50) (i : Int) : (rd_T50 xs i).f2 = (nth (evs xs) i.toNat).key := congrArg Ev.key (rd_ev xs i)
theorem rd_f3 (xs : List S50) (i : Int) : (rd_T50 xs i).f3 = (nth (evs xs) i.toNat).val := congrArg Ev.val (rd_ev xs i)
theorem wrap_id {i : Int} (h0 : -9223372036854775808 ≤ i) (h1 : i ≤ 9223372036854775807) : wrap64 i = i := by unfold wrap64; omega
theorem wrap_succ {i n : Nat} (h : i < n) (hn : n ≤ 140737488351232) : wrap64 ((i : Int) + 1) = ((i + 1 : Nat) : Int) := by unfold wrap64; omega
theorem ba_list {a b : ByteArray} : a.toList = b.toList ↔ a = b := by
  constructor
  · intro h
    have := toList_beq a b
    simp_all
  · intro h; rw [h]
/-- With enough rounds it answers so. -/
def Evt {α : Type} (g : Nat → Option α) (r : α) : Prop := ∃ K, ∀ k, K ≤ k → g k = some r
theorem Evt.step {α : Type} {g f : Nat → Option α} {r : α} (h : ∀ k, g (k + 1) = f k) (k : Evt f r) : Evt g r := YtebjiimlcnmfpaaGreatW.PrintWords.Ev.step h k
theorem Evt.bind {α β : Type} {g : Nat → Option α} {f : Nat → α → Option β} {a : α} {r : β} (h : Evt g a) (k : Evt (fun n => f n a) r) : Evt (fun n => (g n).bind (f n)) r := YtebjiimlcnmfpaaGreatW.PrintWords.Ev.bind h k
theorem Evt.congr {α : Type} {g f : Nat → Option α} {r : α} (h : ∀ k, g k = f k) (k : Evt f r) : Evt g r := YtebjiimlcnmfpaaGreatW.PrintWords.Ev.congr h k
theorem Evt.rounds {α : Type} {g : Nat → Option α} {r : α} (h : Evt g r) : ∃ k, g k = some r := YtebjiimlcnmfpaaGreatW.PrintWords.Ev.rounds h
theorem Evt.now {α : Type} {r : α} {g : Nat → Option α} (h : ∀ k, g k = some r) : Evt g r := ⟨0, fun k _ => h k⟩
theorem Evt.now1 {α : Type} {r : α} {g : Nat → Option α} (h : ∀ k, g (k + 1) = some r) : Evt g r := ⟨1, fun k hk => by
  obtain ⟨k, rfl⟩ : ∃ m, k = m + 1 := ⟨k - 1, by omega⟩
  exact h k⟩
/-- What is bound, with the rounds at hand. -/
theorem Evt.bind' {α β : Type} {h : Nat → Option β} {g : Nat → Option α} {f : Nat → α → Option β} {a : α} {r : β} (e : ∀ k, h k = (g k).bind (f k)) (hg : Evt g a) (k : Evt (fun n => f n a) r) : Evt h r := Evt.congr e (Evt.bind hg k)
end Go.Proofs.YtebjiimlcnmfpaaGreatPr
