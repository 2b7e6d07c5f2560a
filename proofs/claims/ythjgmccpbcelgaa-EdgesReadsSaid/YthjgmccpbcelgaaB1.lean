/-
  Chapter 8's contracts by hand, in the words of the printed ones; slices among a row's arguments.
-/
import Derived.Test.YthjgmccpbcelgaaPr0
import Derived.Test.YthjgmccpbcelgaaA1
import Derived.Test.YthjgmccpbcelgaaA8
import Derived.Test.YthjgmccpbcelgaaA2
import Derived.Test.YthjgmccpbcelgaaA3
import Derived.Test.YthjgmccpbcelgaaA5
import Derived.Test.YthjgmccpbcelgaaA7
/-! Rows as the printed contracts read them, and as the walks by hand read them. -/
set_option linter.unusedVariables false
set_option linter.unusedSimpArgs false
namespace Go.Proofs.YthjgmccpbcelgaaPr
open Go.Proofs.Ythjgmccpbcelgaa
section
open Go Go.RowKit

theorem add_flat (b o m : Nat) : (⟨b, o, none⟩ : Addr).add m = ⟨b, o + m, none⟩ := by unfold Addr.add; split <;> simp_all
theorem spot_none {w : World} {ad : Addr} {v : Value} (h : w.cell? ad = some v) : ad.spot = none := by
  unfold World.cell? at h
  split at h
  · split at h
    · cases h
    · rename_i hs
      simpa using hs
  · cases h
/-- A row that is read, in the words of the walks by hand. -/
theorem sl_of {α β : Type} (d : YthjgmccpbcelgaaW.PrintWords.Kd α) (c : α → List Value) (hK : ∀ {w x cs}, d.K w x cs → cs = c x) (k : Go.Proofs.Ythjgmccpbcelgaa.Kd β) (f : α → β) (hsz : k.sz = d.sz) (hpos : 0 < d.sz) (hR : ∀ w x, k.R w (f x) (c x))
    {w : World} {A : Option Addr} {n : Nat} {xs : List α} (h : YthjgmccpbcelgaaW.PrintWords.Kd.C d w A n xs) (hn : n ≤ 140737488351232) : Sl k w A n (xs.map f) := by
  obtain ⟨hl, _, hg⟩ := h
  refine ⟨by simpa using hl, hn, fun hp => ?_⟩
  obtain ⟨ad, rfl, hc⟩ := hg hp
  have h0 : ad.spot = none := by
    obtain ⟨cs, h1, h2, h3⟩ := hc 0 _ (List.getElem?_eq_getElem (by omega))
    have h4 := h3 0 _ (List.getElem?_eq_getElem (by omega))
    have h5 : ad.add (0 * d.sz + 0) = ad := by simp [Addr.add]
    rw [h5] at h4
    exact spot_none h4
  obtain ⟨b, o, s⟩ := ad
  obtain rfl : s = none := h0
  refine ⟨b, o, rfl, fun i hi => ?_⟩
  obtain ⟨cs, h1, h2, h3⟩ := hc i _ (List.getElem?_eq_getElem (by omega))
  obtain rfl := hK h2
  refine ⟨c xs[i], ?_, fun j u hu => ?_⟩
  · have e : (xs.map f).getD i k.z = f xs[i] := by simp [List.getD_eq_getElem?_getD, List.getElem?_eq_getElem (show i < xs.length by omega)]
    rw [e]
    exact hR _ _
  · have h4 := h3 j u hu
    rw [add_flat] at h4
    rw [hsz, Nat.add_assoc]
    exact h4

theorem flat_drop {β : Type} {c : β → List Value} {m : Nat} (hlen : ∀ y, (c y).length = m) : ∀ (ys : List β) (j : Nat) (y : β), ys[j]? = some y → ((ys.flatMap c).drop (j * m)).take m = c y
  | [], j, y, h => by simp at h
  | x :: r, 0, y, h => by
    obtain rfl : x = y := by simpa using h
    simp only [List.flatMap_cons, Nat.zero_mul, List.drop_zero]
    rw [List.take_append_of_le_length (by rw [hlen]; omega), List.take_of_length_le (by rw [hlen]; omega)]
  | x :: r, j + 1, y, h => by
    have h' : r[j]? = some y := by simpa using h
    have e : (j + 1) * m = (c x).length + j * m := by rw [hlen, Nat.add_mul]; omega
    simp only [List.flatMap_cons]
    rw [e, List.drop_append, List.drop_of_length_le (by omega), List.nil_append, show (c x).length + j * m - (c x).length = j * m by omega]
    exact flat_drop hlen r j y h'
theorem flat_len {β : Type} {c : β → List Value} {m : Nat} (hlen : ∀ y, (c y).length = m) : ∀ (ys : List β), (ys.flatMap c).length = ys.length * m
  | [] => by simp
  | x :: r => by simp only [List.flatMap_cons, List.length_append, List.length_cons, hlen, flat_len hlen r, Nat.add_mul]; omega
/-- A row of the call's own, in the printed words. -/
theorem r_of {α β : Type} (d : YthjgmccpbcelgaaW.PrintWords.Kd α) (e : Nat) (c : β → List Value) (g : β → α) (hM : ∀ w base ok (y : β), d.M w base ok (g y) (c y)) (hlen : ∀ y, (c y).length = d.sz)
    {w : World} {base : Nat} {v : Value} {ys : List β} (h : w.ownsRow base e d.sz v ys.length (ys.flatMap c)) : YthjgmccpbcelgaaW.PrintWords.Kd.R d e w base (fun _ => True) v (ys.map g) := by
  refine ⟨fun _ _ => trivial, ys.flatMap c, by simpa using h, by rw [flat_len hlen, List.length_map], fun j p hj => ?_⟩
  rw [List.getElem?_map] at hj
  obtain ⟨y, hy, rfl⟩ := Option.map_eq_some_iff.1 hj
  rw [flat_drop hlen ys j y hy]
  exact hM _ _ _ _

/-! ### events -/
def toEv (x : S31) : Ev := ⟨x.f0, x.f1, x.f2, x.f3⟩
def evs (l : List S31) : List Ev := l.map toEv
theorem evs_len (l : List S31) : (evs l).length = l.length := by simp [evs]
theorem evs_of {w : World} {A : Option Addr} {n : Nat} {xs : List S31} (h : YthjgmccpbcelgaaW.PrintWords.Kd.C k31 w A n xs) (hn : n ≤ 140737488351232) : Evs w A n (evs xs) :=
  sl_of k31 (fun x => (toEv x).cs) (fun h => k31_open h) kEv toEv rfl (by decide) (fun _ _ => rfl) h hn

end
end Go.Proofs.YthjgmccpbcelgaaPr

/-! For the rows: slices among the arguments, read as the printed contracts read them. -/
namespace Go.Proofs.YthjgmccpbcelgaaPr
open Go.Proofs.Ythjgmccpbcelgaa
section
open Go Go.RowKit Go.Proofs Go.ChangeShapes Go.WideShapes Go.Deep
set_option linter.unusedSimpArgs false
set_option linter.unusedVariables false

section
variable {H : Type} {enc : TypeId × Value → H} {P : Program} {w : World} {base : Nat} {spare : Nat → Bool} {held : Bool}

theorem choose_row {α : Type} (R : Nat → α → Prop) : ∀ n, (∀ i, i < n → ∃ x, R i x) → ∃ l : List α, l.length = n ∧ ∀ i x, l[i]? = some x → R i x
  | 0, _ => ⟨[], rfl, fun i x hi => by simp at hi⟩
  | n + 1, h => by
    obtain ⟨l, hl, hg⟩ := choose_row R n fun i hi => h i (by omega)
    obtain ⟨x, hx⟩ := h n (by omega)
    refine ⟨l ++ [x], by simp [hl], fun i y hy => ?_⟩
    by_cases e : i < n
    · rw [List.getElem?_append_left (by omega)] at hy
      exact hg i y hy
    · have hi : i < (l ++ [x]).length := (List.getElem?_eq_some_iff.1 hy).1
      rw [List.length_append, List.length_singleton] at hi
      obtain rfl : i = n := by omega
      rw [List.getElem?_append_right (by omega), hl] at hy
      obtain rfl : x = y := by simpa using hy
      exact hx

/-- A slice, by its cells, as a list of what its elements are read as. -/
theorem cells_C {α : Type} (d : YthjgmccpbcelgaaW.PrintWords.Kd α) (Q : α → Prop) {t e : TypeId} {A : Option Addr} {n cap fuel : Nat} {x : DataW H × List MemPlace}
    (ht : P.underlying t = some (.slice e)) (hC : P.cellsOf e = d.sz)
    (hk : ∀ m cs x, DataW.trod enc P w base spare held m e cs = some x → cs.length = d.sz → ∃ v, d.K w v cs ∧ Q v)
    (h : DataW.trod enc P w base spare held fuel t [.slice A n cap] = some x) : ∃ l : List α, l.length = n ∧ n ≤ cap ∧ YthjgmccpbcelgaaW.PrintWords.Kd.C d w A l.length l ∧ ∀ y ∈ l, Q y := by
  rcases open_slice ht h with ⟨hcs, _⟩ | ⟨a, len, cap', m, f, D, Pl, hcs, hb, hl, hm, hmm, hx, hi⟩
  · simp at hcs
    obtain ⟨rfl, rfl, rfl⟩ := hcs
    exact ⟨[], rfl, Nat.le_refl _, ⟨rfl, by simp, fun hn => by simp at hn⟩, fun y hy => by cases hy⟩
  · simp at hcs
    obtain ⟨rfl, rfl, rfl⟩ := hcs
    have hnm : n ≤ m := by rw [hmm]; split <;> omega
    have hch : ∀ i, i < n → ∃ y, (Q y ∧ ∃ cs, cs.length = d.sz ∧ d.K w y cs ∧ ∀ j u, cs[j]? = some u → w.cell? (a.add (i * d.sz + j)) = some u) := fun i hin => by
      obtain ⟨cs', hc, ht'⟩ := hi i (by omega)
      rw [hC] at hc
      obtain ⟨_, hcl, hat⟩ := World.cells?_some hc
      obtain ⟨v, hR, hQ⟩ := hk f cs' _ ht' hcl
      refine ⟨v, hQ, cs', hcl, hR, fun j u hu => ?_⟩
      have hj : j < d.sz := by rw [← hcl]; exact (List.getElem?_eq_some_iff.1 hu).1
      rw [← Go.Deep.add_add, hat j hj, hu]
    obtain ⟨l, hl', hg⟩ := choose_row _ n hch
    refine ⟨l, hl', hl, ⟨rfl, by simp only [maxLen] at hm; omega, fun hn => ⟨a, rfl, fun j p hp => ?_⟩⟩, fun y hy => ?_⟩
    · obtain ⟨_, cs, h1, h2, h3⟩ := hg j p hp
      exact ⟨cs, h1, h2, h3⟩
    · obtain ⟨i, hi', rfl⟩ := List.getElem_of_mem hy
      exact (hg i _ (List.getElem?_eq_getElem hi')).1

/-- A slice that is an argument; how long it may be. -/
theorem trod_C {α : Type} (d : YthjgmccpbcelgaaW.PrintWords.Kd α) (Q : α → Prop) {t e : TypeId} {A : Option Addr} {n cap : Nat} {D : DataW H} {ps : List MemPlace} {ts : List TypeId} {ds : List (DataW H)} {j : Nat} {B : Nat}
    (hsz : (DataW.weightsEach P ts ds).all (· ≤ reachBytes) = true) (hts : ts[j]? = some t) (hd : ds[j]? = some D)
    (ht : P.underlying t = some (.slice e)) (hC : P.cellsOf e = d.sz) (hB : P.bytesOf e = B)
    (hk : ∀ m cs x, DataW.trod enc P w base spare held m e cs = some x → cs.length = d.sz → ∃ v, d.K w v cs ∧ Q v)
    (h : DataW.Trod enc P w base spare held t (.slice A n cap) D ps) : ∃ l : List α, l.length = n ∧ n ≤ cap ∧ YthjgmccpbcelgaaW.PrintWords.Kd.C d w A l.length l ∧ (∀ y ∈ l, Q y) ∧ l.length * B ≤ 140737488351232 := by
  obtain ⟨fuel, hf⟩ := h
  have hbig : n * B ≤ 140737488351232 := by
    rcases open_slice ht hf with ⟨hcs, _⟩ | ⟨a, len, cap', m, f, D', Pl, hcs, hb, hl, hm, hmm, hx, hi⟩
    · simp [Value.cells] at hcs
      obtain ⟨rfl, rfl, rfl⟩ := hcs
      simp
    · simp [Value.cells] at hcs
      obtain ⟨rfl, rfl, rfl⟩ := hcs
      obtain ⟨hx, _⟩ := Prod.mk.inj hx
      subst hx
      have z := sized_slice hsz hts hd ht
      rw [hB] at z
      simp only [List.length_map, List.length_range] at z
      have : n ≤ n + (m - n) := by omega
      exact Nat.le_trans (Nat.mul_le_mul_right _ this) z
  simp only [Value.cells] at hf
  obtain ⟨l, h1, h2, h3, h4⟩ := cells_C d Q ht hC hk hf
  exact ⟨l, h1, h2, h3, h4, by rw [h1]; exact hbig⟩
end

/-- What of an event is sure. -/
def EvS (x : S31) : Prop := (Lit.int .i64 x.f0).wf = true ∧ (Lit.int .i64 x.f1).wf = true ∧ x.f2.size ≤ maxLen ∧ x.f3.size ≤ maxLen
theorem trod_evS {H : Type} {enc : TypeId × Value → H} {base : Nat} {spare : Nat → Bool} {held : Bool} {W : World} (m : Nat) (cs : List Value) (x : DataW H × List MemPlace)
    (h : DataW.trod enc Try.prog W base spare held m 31 cs = some x) (hc : cs.length = k31.sz) : ∃ v, k31.K W v cs ∧ EvS v := by
  obtain ⟨v, hv, q1, q2, q3, q4⟩ := trod_ev W m cs x h hc
  have e : cs = v.cs := hv
  rw [e]
  exact ⟨⟨v.kind, v.txn, v.key, v.val⟩, k31_mk W ⟨v.kind, v.txn, v.key, v.val⟩, q1, q2, q3, q4⟩

def IntS (x : Int) : Prop := (Lit.int .i64 x).wf = true
theorem trod_intS {H : Type} {enc : TypeId × Value → H} {base : Nat} {spare : Nat → Bool} {held : Bool} {W : World} (m : Nat) (cs : List Value) (x : DataW H × List MemPlace)
    (h : DataW.trod enc Try.prog W base spare held m 3 cs = some x) (hc : cs.length = (YthjgmccpbcelgaaW.PrintWords.Kd.int .i64).sz) : ∃ v, (YthjgmccpbcelgaaW.PrintWords.Kd.int .i64).K W v cs ∧ IntS v := by
  obtain ⟨a, e, _, w0⟩ := DataW.trod_int (k := .i64) (by kernel_rfl) h
  exact ⟨a, e, w0⟩

end
end Go.Proofs.YthjgmccpbcelgaaPr

/-! The contracts of chapter 8's functions, in the words of the printed ones. -/
namespace Go.Proofs.YthjgmccpbcelgaaPr
open Go.Proofs.Ythjgmccpbcelgaa
section
open Go Go.RowKit

def history_Formed.f (l0 : List S31) : Option (Int × Int) := if l0.length ≤ 140737488351232 then some (formed (evs l0)) else none
theorem history_Formed.calls (A0 : Option Addr) (c0 : Nat) (l0 : List S31) (r1 : Int) (r2 : Int) (w : World) (hr0 : YthjgmccpbcelgaaW.PrintWords.Kd.C k31 w A0 l0.length l0) (hc0 : l0.length ≤ c0) (h : history_Formed.f l0 = some (r1, r2)) :
    Calls Try.prog 58 #[.slice A0 l0.length c0] w fun e w' => e = .returned (.tuple #[.int .i64 r1, .int .i64 r2]) ∧ Below w.heap.size w w' := by
  unfold history_Formed.f at h
  split at h
  · rename_i hn
    have h1 := h_formed w A0 l0.length c0 (evs l0) (evs_of hr0 hn) hc0
    injection h with h
    rw [h] at h1
    exact h1
  · cases h

def history_Find.f (l0 : List S31) (a1 : Int) : Option (Int × Int × Int × Bool × Bool) :=
  if l0.length ≤ 140737488351232 then some ((findL (evs l0) a1).1.txn, (findL (evs l0) a1).1.from_, (findL (evs l0) a1).1.till, (findL (evs l0) a1).1.com, (findL (evs l0) a1).2) else none
theorem history_Find.calls (A0 : Option Addr) (c0 : Nat) (l0 : List S31) (a1 : Int) (r1 : Int) (r2 : Int) (r3 : Int) (r4 : Bool) (r5 : Bool) (w : World) (hr0 : YthjgmccpbcelgaaW.PrintWords.Kd.C k31 w A0 l0.length l0) (hc0 : l0.length ≤ c0) (h : history_Find.f l0 a1 = some (r1, r2, r3, r4, r5)) :
    Calls Try.prog 64 #[.slice A0 l0.length c0, .int .i64 a1] w fun e w' => e = .returned (.tuple #[.agg #[.int .i64 r1, .int .i64 r2, .int .i64 r3, .bool r4], .bool r5]) ∧ Below w.heap.size w w' := by
  unfold history_Find.f at h
  split at h
  · rename_i hn
    have h1 := h_find w A0 l0.length c0 (evs l0) a1 (evs_of hr0 hn)
    simp only [Option.some.injEq, Prod.mk.injEq] at h
    obtain ⟨rfl, rfl, rfl, rfl, rfl⟩ := h
    exact h1
  · cases h

def history_Writer.f (l0 : List S31) (a1 : ByteArray) (a2 : ByteArray) : Option (Int) := if l0.length ≤ 140737488351232 then some (writer (evs l0) a1 a2) else none
theorem history_Writer.calls (A0 : Option Addr) (c0 : Nat) (l0 : List S31) (a1 : ByteArray) (a2 : ByteArray) (r : Int) (w : World) (hr0 : YthjgmccpbcelgaaW.PrintWords.Kd.C k31 w A0 l0.length l0) (hc0 : l0.length ≤ c0) (h : history_Writer.f l0 a1 a2 = some r) :
    Calls Try.prog 61 #[.slice A0 l0.length c0, .string a1, .string a2] w fun e w' => e = .returned (.int .i64 r) ∧ Below w.heap.size w w' := by
  unfold history_Writer.f at h
  split at h
  · rename_i hn
    have h1 := h_writer w A0 l0.length c0 (evs l0) a1 a2 (evs_of hr0 hn)
    injection h with h
    rw [h] at h1
    exact h1
  · cases h

def history_Last.f (l0 : List S31) (a1 : Int) (a2 : ByteArray) (a3 : Int) : Option (Int) := if l0.length ≤ 140737488351232 then some (lastOf (evs l0) a1 a2 a3) else none
theorem history_Last.calls (A0 : Option Addr) (c0 : Nat) (l0 : List S31) (a1 : Int) (a2 : ByteArray) (a3 : Int) (r : Int) (w : World) (hr0 : YthjgmccpbcelgaaW.PrintWords.Kd.C k31 w A0 l0.length l0) (hc0 : l0.length ≤ c0) (h : history_Last.f l0 a1 a2 a3 = some r) :
    Calls Try.prog 63 #[.slice A0 l0.length c0, .int .i64 a1, .string a2, .int .i64 a3] w fun e w' => e = .returned (.int .i64 r) ∧ Below w.heap.size w w' := by
  unfold history_Last.f at h
  split at h
  · rename_i hn
    have h1 := h_last w A0 l0.length c0 (evs l0) a1 a3 a2 (evs_of hr0 hn)
    injection h with h
    rw [h] at h1
    exact h1
  · cases h

def ofLife (x : Life) : S33 := ⟨x.txn, x.from_, x.till, x.com⟩
def history_Lives.f (l0 : List S31) : Option ((List (S33))) := if l0.length ≤ 1000 then some ((lives (evs l0)).map ofLife) else none
theorem history_Lives.calls (A0 : Option Addr) (c0 : Nat) (l0 : List S31) (r : List (S33)) (w : World) (hr0 : YthjgmccpbcelgaaW.PrintWords.Kd.C k31 w A0 l0.length l0) (hc0 : l0.length ≤ c0) (h : history_Lives.f l0 = some r) :
    Calls Try.prog 69 #[.slice A0 l0.length c0] w fun e w' => ∃ v0_ : Value, e = .returned (v0_) ∧ YthjgmccpbcelgaaW.PrintWords.Kd.R k33 33 w' w.heap.size (fun _ => True) v0_ r ∧ Below w.heap.size w w' := by
  unfold history_Lives.f at h
  split at h
  · rename_i hn
    have h1 := h_lives_own w A0 l0.length c0 (evs l0) (evs_of hr0 (by omega)) hn hc0
    injection h with h
    refine h1.mono fun e w' ⟨v, he, ho, hx⟩ => ⟨v, he, ?_, hx⟩
    rw [← h]
    exact r_of k33 33 Life.cs ofLife (fun w base ok y => k33_mkM w base ok (ofLife y)) (fun _ => rfl) ho
  · cases h

end
end Go.Proofs.YthjgmccpbcelgaaPr

/-! The contracts of reference 08's functions, in the words of the printed ones. -/
namespace Go.Proofs.YthjgmccpbcelgaaPr
open Go.Proofs.Ythjgmccpbcelgaa
section
open Go Go.RowKit

def cartoucheref08_first.f (l0 : List S31) (a1 : Int) (a2 : Int) : Option (Int) := if l0.length ≤ 140737488351232 ∧ 0 ≤ a2 ∧ a2 ≤ (l0.length : Int) then some (firstOf ((evs l0).take a2.toNat) a1) else none
theorem cartoucheref08_first.calls (A0 : Option Addr) (c0 : Nat) (l0 : List S31) (a1 : Int) (a2 : Int) (r : Int) (w : World) (hr0 : YthjgmccpbcelgaaW.PrintWords.Kd.C k31 w A0 l0.length l0) (hc0 : l0.length ≤ c0) (h : cartoucheref08_first.f l0 a1 a2 = some r) :
    Calls Try.prog 78 #[.slice A0 l0.length c0, .int .i64 a1, .int .i64 a2] w fun e w' => e = .returned (.int .i64 r) ∧ YthjgmccpbcelgaaW.PrintWords.Drawn0 w w' := by
  unfold cartoucheref08_first.f at h
  split at h
  · rename_i hn
    have h1 := r08_first w A0 l0.length c0 (evs l0) a1 a2 (evs_of hr0 hn.1) hn.2.1 hn.2.2
    simp only [Option.some.injEq] at h
    obtain rfl := h
    exact h1.mono fun e w' ⟨he, hw⟩ => ⟨he, by rw [hw]; exact YthjgmccpbcelgaaW.PrintWords.Drawn0.refl _⟩
  · cases h

def cartoucheref08_End.f (l0 : List S31) (a1 : Int) (a2 : Int) : Option (Int) := if l0.length ≤ 140737488351232 ∧ 0 ≤ a2 ∧ a2 ≤ (l0.length : Int) then some (endOf ((evs l0).take a2.toNat) a1) else none
theorem cartoucheref08_End.calls (A0 : Option Addr) (c0 : Nat) (l0 : List S31) (a1 : Int) (a2 : Int) (r : Int) (w : World) (hr0 : YthjgmccpbcelgaaW.PrintWords.Kd.C k31 w A0 l0.length l0) (hc0 : l0.length ≤ c0) (h : cartoucheref08_End.f l0 a1 a2 = some r) :
    Calls Try.prog 79 #[.slice A0 l0.length c0, .int .i64 a1, .int .i64 a2] w fun e w' => e = .returned (.int .i64 r) ∧ YthjgmccpbcelgaaW.PrintWords.Drawn0 w w' := by
  unfold cartoucheref08_End.f at h
  split at h
  · rename_i hn
    have h1 := r08_end w A0 l0.length c0 (evs l0) a1 a2 (evs_of hr0 hn.1) hn.2.1 hn.2.2
    simp only [Option.some.injEq] at h
    obtain rfl := h
    exact h1.mono fun e w' ⟨he, hw⟩ => ⟨he, by rw [hw]; exact YthjgmccpbcelgaaW.PrintWords.Drawn0.refl _⟩
  · cases h

def cartoucheref08_Writer.f (l0 : List S31) (a1 : ByteArray) (a2 : ByteArray) : Option (Int) := if l0.length ≤ 140737488351232 then some (writer (evs l0) a1 a2) else none
theorem cartoucheref08_Writer.calls (A0 : Option Addr) (c0 : Nat) (l0 : List S31) (a1 : ByteArray) (a2 : ByteArray) (r : Int) (w : World) (hr0 : YthjgmccpbcelgaaW.PrintWords.Kd.C k31 w A0 l0.length l0) (hc0 : l0.length ≤ c0) (h : cartoucheref08_Writer.f l0 a1 a2 = some r) :
    Calls Try.prog 62 #[.slice A0 l0.length c0, .string a1, .string a2] w fun e w' => e = .returned (.int .i64 r) ∧ YthjgmccpbcelgaaW.PrintWords.Drawn0 w w' := by
  unfold cartoucheref08_Writer.f at h
  split at h
  · rename_i hn
    have h1 := r08_writer w A0 l0.length c0 (evs l0) a1 a2 (evs_of hr0 hn)
    simp only [Option.some.injEq] at h
    obtain rfl := h
    exact h1.mono fun e w' ⟨he, hw⟩ => ⟨he, by rw [hw]; exact YthjgmccpbcelgaaW.PrintWords.Drawn0.refl _⟩
  · cases h

def cartoucheref08_Last.f (l0 : List S31) (a1 : Int) (a2 : ByteArray) (a3 : Int) : Option (Int) := if l0.length ≤ 140737488351232 then some (lastOf (evs l0) a1 a2 a3) else none
theorem cartoucheref08_Last.calls (A0 : Option Addr) (c0 : Nat) (l0 : List S31) (a1 : Int) (a2 : ByteArray) (a3 : Int) (r : Int) (w : World) (hr0 : YthjgmccpbcelgaaW.PrintWords.Kd.C k31 w A0 l0.length l0) (hc0 : l0.length ≤ c0) (h : cartoucheref08_Last.f l0 a1 a2 a3 = some r) :
    Calls Try.prog 42 #[.slice A0 l0.length c0, .int .i64 a1, .string a2, .int .i64 a3] w fun e w' => e = .returned (.int .i64 r) ∧ YthjgmccpbcelgaaW.PrintWords.Drawn0 w w' := by
  unfold cartoucheref08_Last.f at h
  split at h
  · rename_i hn
    have h1 := r08_last w A0 l0.length c0 (evs l0) a1 a3 a2 (evs_of hr0 hn)
    simp only [Option.some.injEq] at h
    obtain rfl := h
    exact h1.mono fun e w' ⟨he, hw⟩ => ⟨he, by rw [hw]; exact YthjgmccpbcelgaaW.PrintWords.Drawn0.refl _⟩
  · cases h

def cartoucheref08_Find.f (l0 : List S31) (a1 : Int) : Option (Int × Int × Int × Bool × Bool) := if l0.length ≤ 140737488351232 then some ((findL (evs l0) a1).1.txn, (findL (evs l0) a1).1.from_, (findL (evs l0) a1).1.till, (findL (evs l0) a1).1.com, (findL (evs l0) a1).2) else none
theorem cartoucheref08_Find.calls (A0 : Option Addr) (c0 : Nat) (l0 : List S31) (a1 : Int) (r1 : Int) (r2 : Int) (r3 : Int) (r4 : Bool) (r5 : Bool) (w : World) (hr0 : YthjgmccpbcelgaaW.PrintWords.Kd.C k31 w A0 l0.length l0) (hc0 : l0.length ≤ c0) (h : cartoucheref08_Find.f l0 a1 = some (r1, r2, r3, r4, r5)) :
    Calls Try.prog 34 #[.slice A0 l0.length c0, .int .i64 a1] w fun e w' => e = .returned (.tuple #[.agg #[.int .i64 r1, .int .i64 r2, .int .i64 r3, .bool r4], .bool r5]) ∧ Below w.heap.size w w' := by
  unfold cartoucheref08_Find.f at h
  split at h
  · rename_i hn
    have h1 := r08_find w A0 l0.length c0 (evs l0) a1 (evs_of hr0 hn)
    simp only [Option.some.injEq, Prod.mk.injEq] at h
    obtain ⟨rfl, rfl, rfl, rfl, rfl⟩ := h
    exact h1
  · cases h

def cartoucheref08_Formed.f (l0 : List S31)  : Option (Int × Int) := if l0.length ≤ 140737488351232 then some ((formed (evs l0)).1, (formed (evs l0)).2) else none
theorem cartoucheref08_Formed.calls (A0 : Option Addr) (c0 : Nat) (l0 : List S31)  (r1 : Int) (r2 : Int) (w : World) (hr0 : YthjgmccpbcelgaaW.PrintWords.Kd.C k31 w A0 l0.length l0) (hc0 : l0.length ≤ c0) (h : cartoucheref08_Formed.f l0  = some (r1, r2)) :
    Calls Try.prog 32 #[.slice A0 l0.length c0] w fun e w' => e = .returned (.tuple #[.int .i64 r1, .int .i64 r2]) ∧ Below w.heap.size w w' := by
  unfold cartoucheref08_Formed.f at h
  split at h
  · rename_i hn
    have h1 := r08_formed w A0 l0.length c0 (evs l0) (evs_of hr0 hn)
    simp only [Option.some.injEq, Prod.mk.injEq] at h
    obtain ⟨rfl, rfl⟩ := h
    exact h1
  · cases h

end
end Go.Proofs.YthjgmccpbcelgaaPr

/-! The contract of history.Versions, in the words of the printed ones. -/
namespace Go.Proofs.YthjgmccpbcelgaaPr
open Go.Proofs.Ythjgmccpbcelgaa
section
open Go Go.RowKit

def history_Versions.f (l0 : List S31) (a1 : ByteArray) : Option (List Int) := if l0.length ≤ 1000 then some (versions (evs l0) a1) else none
theorem history_Versions.calls (A0 : Option Addr) (c0 : Nat) (l0 : List S31) (a1 : ByteArray) (r : List Int) (w : World) (hr0 : YthjgmccpbcelgaaW.PrintWords.Kd.C k31 w A0 l0.length l0) (hc0 : l0.length ≤ c0) (h : history_Versions.f l0 a1 = some r) :
    Calls Try.prog 59 #[.slice A0 l0.length c0, .string a1] w fun e w' => ∃ v0_ : Value, e = .returned (v0_) ∧ YthjgmccpbcelgaaW.PrintWords.Kd.R (YthjgmccpbcelgaaW.PrintWords.Kd.int .i64) 3 w' w.heap.size (fun _ => True) v0_ r ∧ Below w.heap.size w w' := by
  unfold history_Versions.f at h
  split at h
  · rename_i hn
    have h1 := h_versions w A0 l0.length c0 (evs l0) a1 (evs_of hr0 (by omega)) hn hc0
    injection h with h
    refine h1.mono fun e w' ⟨v, he, ho, hx⟩ => ⟨v, he, ?_, hx⟩
    rw [← h]
    have := r_of (YthjgmccpbcelgaaW.PrintWords.Kd.int .i64) 3 (fun x : Int => [.int .i64 x]) id (fun w base ok y => rfl) (fun _ => rfl) (w := w') (base := w.heap.size) (v := v) (ys := versions (evs l0) a1) ho
    rwa [List.map_id] at this
  · cases h
end
end Go.Proofs.YthjgmccpbcelgaaPr
