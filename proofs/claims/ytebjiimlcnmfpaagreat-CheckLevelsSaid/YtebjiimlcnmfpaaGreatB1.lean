/-
  The words of the layers below, joined
-/
import Derived.Test.YtebjiimlcnmfpaaGreatB0
import Derived.Test.YtebjiimlcnmfpaaGreatA1
import Derived.Test.YtebjiimlcnmfpaaGreatA2
import Derived.Test.YtebjiimlcnmfpaaGreatA3
/-! The contracts of chapter 8's functions, in the words of the printed ones. -/
set_option linter.unusedVariables false
set_option linter.unusedSimpArgs false
namespace Go.Proofs.YtebjiimlcnmfpaaGreatPr
open Go.Proofs.YtebjiimlcnmfpaaGreat
section
open Go Go.RowKit

def history_Formed.f (l0 : List S50) : Option (Int × Int) := if l0.length ≤ 140737488351232 then some (formed (evs l0)) else none
theorem history_Formed.calls (A0 : Option Addr) (c0 : Nat) (l0 : List S50) (r1 : Int) (r2 : Int) (w : World) (hr0 : YtebjiimlcnmfpaaGreatW.PrintWords.Kd.C k50 w A0 l0.length l0) (hc0 : l0.length ≤ c0) (h : history_Formed.f l0 = some (r1, r2)) :
    Calls Tryz.prog 63 #[.slice A0 l0.length c0] w fun e w' => e = .returned (.tuple #[.int .i64 r1, .int .i64 r2]) ∧ Below w.heap.size w w' := by
  unfold history_Formed.f at h
  split at h
  · rename_i hn
    have h1 := h_formed w A0 l0.length c0 (evs l0) (evs_of hr0 hn) hc0
    injection h with h
    rw [h] at h1
    exact h1
  · cases h

def history_Find.f (l0 : List S50) (a1 : Int) : Option (Int × Int × Int × Bool × Bool) :=
  if l0.length ≤ 140737488351232 then some ((findL (evs l0) a1).1.txn, (findL (evs l0) a1).1.from_, (findL (evs l0) a1).1.till, (findL (evs l0) a1).1.com, (findL (evs l0) a1).2) else none
theorem history_Find.calls (A0 : Option Addr) (c0 : Nat) (l0 : List S50) (a1 : Int) (r1 : Int) (r2 : Int) (r3 : Int) (r4 : Bool) (r5 : Bool) (w : World) (hr0 : YtebjiimlcnmfpaaGreatW.PrintWords.Kd.C k50 w A0 l0.length l0) (hc0 : l0.length ≤ c0) (h : history_Find.f l0 a1 = some (r1, r2, r3, r4, r5)) :
    Calls Tryz.prog 98 #[.slice A0 l0.length c0, .int .i64 a1] w fun e w' => e = .returned (.tuple #[.agg #[.int .i64 r1, .int .i64 r2, .int .i64 r3, .bool r4], .bool r5]) ∧ Below w.heap.size w w' := by
  unfold history_Find.f at h
  split at h
  · rename_i hn
    have h1 := h_find w A0 l0.length c0 (evs l0) a1 (evs_of hr0 hn)
    simp only [Option.some.injEq, Prod.mk.injEq] at h
    obtain ⟨rfl, rfl, rfl, rfl, rfl⟩ := h
    exact h1
  · cases h

def history_Writer.f (l0 : List S50) (a1 : ByteArray) (a2 : ByteArray) : Option (Int) := if l0.length ≤ 140737488351232 then some (writer (evs l0) a1 a2) else none
theorem history_Writer.calls (A0 : Option Addr) (c0 : Nat) (l0 : List S50) (a1 : ByteArray) (a2 : ByteArray) (r : Int) (w : World) (hr0 : YtebjiimlcnmfpaaGreatW.PrintWords.Kd.C k50 w A0 l0.length l0) (hc0 : l0.length ≤ c0) (h : history_Writer.f l0 a1 a2 = some r) :
    Calls Tryz.prog 99 #[.slice A0 l0.length c0, .string a1, .string a2] w fun e w' => e = .returned (.int .i64 r) ∧ Below w.heap.size w w' := by
  unfold history_Writer.f at h
  split at h
  · rename_i hn
    have h1 := h_writer w A0 l0.length c0 (evs l0) a1 a2 (evs_of hr0 hn)
    injection h with h
    rw [h] at h1
    exact h1
  · cases h

def history_Last.f (l0 : List S50) (a1 : Int) (a2 : ByteArray) (a3 : Int) : Option (Int) := if l0.length ≤ 140737488351232 then some (lastOf (evs l0) a1 a2 a3) else none
theorem history_Last.calls (A0 : Option Addr) (c0 : Nat) (l0 : List S50) (a1 : Int) (a2 : ByteArray) (a3 : Int) (r : Int) (w : World) (hr0 : YtebjiimlcnmfpaaGreatW.PrintWords.Kd.C k50 w A0 l0.length l0) (hc0 : l0.length ≤ c0) (h : history_Last.f l0 a1 a2 a3 = some r) :
    Calls Tryz.prog 123 #[.slice A0 l0.length c0, .int .i64 a1, .string a2, .int .i64 a3] w fun e w' => e = .returned (.int .i64 r) ∧ Below w.heap.size w w' := by
  unfold history_Last.f at h
  split at h
  · rename_i hn
    have h1 := h_last w A0 l0.length c0 (evs l0) a1 a3 a2 (evs_of hr0 hn)
    injection h with h
    rw [h] at h1
    exact h1
  · cases h

def ofLife (x : Life) : S52 := ⟨x.txn, x.from_, x.till, x.com⟩
def history_Lives.f (l0 : List S50) : Option ((List (S52))) := if l0.length ≤ 1000 then some ((lives (evs l0)).map ofLife) else none
theorem history_Lives.calls (A0 : Option Addr) (c0 : Nat) (l0 : List S50) (r : List (S52)) (w : World) (hr0 : YtebjiimlcnmfpaaGreatW.PrintWords.Kd.C k50 w A0 l0.length l0) (hc0 : l0.length ≤ c0) (h : history_Lives.f l0 = some r) :
    Calls Tryz.prog 52 #[.slice A0 l0.length c0] w fun e w' => ∃ v0_ : Value, e = .returned (v0_) ∧ YtebjiimlcnmfpaaGreatW.PrintWords.Kd.R k52 52 w' w.heap.size (fun _ => True) v0_ r ∧ Below w.heap.size w w' := by
  unfold history_Lives.f at h
  split at h
  · rename_i hn
    have h1 := h_lives_own w A0 l0.length c0 (evs l0) (evs_of hr0 (by omega)) hn hc0
    injection h with h
    refine h1.mono fun e w' ⟨v, he, ho, hx⟩ => ⟨v, he, ?_, hx⟩
    rw [← h]
    exact r_of k52 52 Life.cs ofLife (fun w base ok y => k52_mkM w base ok (ofLife y)) (fun _ => rfl) ho
  · cases h

end
end Go.Proofs.YtebjiimlcnmfpaaGreatPr

/-! The contracts of reference 08's functions, in the words of the printed ones. -/
namespace Go.Proofs.YtebjiimlcnmfpaaGreatPr
open Go.Proofs.YtebjiimlcnmfpaaGreat
section
open Go Go.RowKit

def cartoucheref08_first.f (l0 : List S50) (a1 : Int) (a2 : Int) : Option (Int) := if l0.length ≤ 140737488351232 ∧ 0 ≤ a2 ∧ a2 ≤ (l0.length : Int) then some (firstOf ((evs l0).take a2.toNat) a1) else none
theorem cartoucheref08_first.calls (A0 : Option Addr) (c0 : Nat) (l0 : List S50) (a1 : Int) (a2 : Int) (r : Int) (w : World) (hr0 : YtebjiimlcnmfpaaGreatW.PrintWords.Kd.C k50 w A0 l0.length l0) (hc0 : l0.length ≤ c0) (h : cartoucheref08_first.f l0 a1 a2 = some r) :
    Calls Tryz.prog 61 #[.slice A0 l0.length c0, .int .i64 a1, .int .i64 a2] w fun e w' => e = .returned (.int .i64 r) ∧ YtebjiimlcnmfpaaGreatW.PrintWords.Drawn0 w w' := by
  unfold cartoucheref08_first.f at h
  split at h
  · rename_i hn
    have h1 := r08_first w A0 l0.length c0 (evs l0) a1 a2 (evs_of hr0 hn.1) hn.2.1 hn.2.2
    simp only [Option.some.injEq] at h
    obtain rfl := h
    exact h1.mono fun e w' ⟨he, hw⟩ => ⟨he, by rw [hw]; exact YtebjiimlcnmfpaaGreatW.PrintWords.Drawn0.refl _⟩
  · cases h

def cartoucheref08_End.f (l0 : List S50) (a1 : Int) (a2 : Int) : Option (Int) := if l0.length ≤ 140737488351232 ∧ 0 ≤ a2 ∧ a2 ≤ (l0.length : Int) then some (endOf ((evs l0).take a2.toNat) a1) else none
theorem cartoucheref08_End.calls (A0 : Option Addr) (c0 : Nat) (l0 : List S50) (a1 : Int) (a2 : Int) (r : Int) (w : World) (hr0 : YtebjiimlcnmfpaaGreatW.PrintWords.Kd.C k50 w A0 l0.length l0) (hc0 : l0.length ≤ c0) (h : cartoucheref08_End.f l0 a1 a2 = some r) :
    Calls Tryz.prog 62 #[.slice A0 l0.length c0, .int .i64 a1, .int .i64 a2] w fun e w' => e = .returned (.int .i64 r) ∧ YtebjiimlcnmfpaaGreatW.PrintWords.Drawn0 w w' := by
  unfold cartoucheref08_End.f at h
  split at h
  · rename_i hn
    have h1 := r08_end w A0 l0.length c0 (evs l0) a1 a2 (evs_of hr0 hn.1) hn.2.1 hn.2.2
    simp only [Option.some.injEq] at h
    obtain rfl := h
    exact h1.mono fun e w' ⟨he, hw⟩ => ⟨he, by rw [hw]; exact YtebjiimlcnmfpaaGreatW.PrintWords.Drawn0.refl _⟩
  · cases h

def cartoucheref08_Writer.f (l0 : List S50) (a1 : ByteArray) (a2 : ByteArray) : Option (Int) := if l0.length ≤ 140737488351232 then some (writer (evs l0) a1 a2) else none
theorem cartoucheref08_Writer.calls (A0 : Option Addr) (c0 : Nat) (l0 : List S50) (a1 : ByteArray) (a2 : ByteArray) (r : Int) (w : World) (hr0 : YtebjiimlcnmfpaaGreatW.PrintWords.Kd.C k50 w A0 l0.length l0) (hc0 : l0.length ≤ c0) (h : cartoucheref08_Writer.f l0 a1 a2 = some r) :
    Calls Tryz.prog 58 #[.slice A0 l0.length c0, .string a1, .string a2] w fun e w' => e = .returned (.int .i64 r) ∧ YtebjiimlcnmfpaaGreatW.PrintWords.Drawn0 w w' := by
  unfold cartoucheref08_Writer.f at h
  split at h
  · rename_i hn
    have h1 := r08_writer w A0 l0.length c0 (evs l0) a1 a2 (evs_of hr0 hn)
    simp only [Option.some.injEq] at h
    obtain rfl := h
    exact h1.mono fun e w' ⟨he, hw⟩ => ⟨he, by rw [hw]; exact YtebjiimlcnmfpaaGreatW.PrintWords.Drawn0.refl _⟩
  · cases h

def cartoucheref08_Last.f (l0 : List S50) (a1 : Int) (a2 : ByteArray) (a3 : Int) : Option (Int) := if l0.length ≤ 140737488351232 then some (lastOf (evs l0) a1 a2 a3) else none
theorem cartoucheref08_Last.calls (A0 : Option Addr) (c0 : Nat) (l0 : List S50) (a1 : Int) (a2 : ByteArray) (a3 : Int) (r : Int) (w : World) (hr0 : YtebjiimlcnmfpaaGreatW.PrintWords.Kd.C k50 w A0 l0.length l0) (hc0 : l0.length ≤ c0) (h : cartoucheref08_Last.f l0 a1 a2 a3 = some r) :
    Calls Tryz.prog 92 #[.slice A0 l0.length c0, .int .i64 a1, .string a2, .int .i64 a3] w fun e w' => e = .returned (.int .i64 r) ∧ YtebjiimlcnmfpaaGreatW.PrintWords.Drawn0 w w' := by
  unfold cartoucheref08_Last.f at h
  split at h
  · rename_i hn
    have h1 := r08_last w A0 l0.length c0 (evs l0) a1 a3 a2 (evs_of hr0 hn)
    simp only [Option.some.injEq] at h
    obtain rfl := h
    exact h1.mono fun e w' ⟨he, hw⟩ => ⟨he, by rw [hw]; exact YtebjiimlcnmfpaaGreatW.PrintWords.Drawn0.refl _⟩
  · cases h

def cartoucheref08_Find.f (l0 : List S50) (a1 : Int) : Option (Int × Int × Int × Bool × Bool) := if l0.length ≤ 140737488351232 then some ((findL (evs l0) a1).1.txn, (findL (evs l0) a1).1.from_, (findL (evs l0) a1).1.till, (findL (evs l0) a1).1.com, (findL (evs l0) a1).2) else none
theorem cartoucheref08_Find.calls (A0 : Option Addr) (c0 : Nat) (l0 : List S50) (a1 : Int) (r1 : Int) (r2 : Int) (r3 : Int) (r4 : Bool) (r5 : Bool) (w : World) (hr0 : YtebjiimlcnmfpaaGreatW.PrintWords.Kd.C k50 w A0 l0.length l0) (hc0 : l0.length ≤ c0) (h : cartoucheref08_Find.f l0 a1 = some (r1, r2, r3, r4, r5)) :
    Calls Tryz.prog 70 #[.slice A0 l0.length c0, .int .i64 a1] w fun e w' => e = .returned (.tuple #[.agg #[.int .i64 r1, .int .i64 r2, .int .i64 r3, .bool r4], .bool r5]) ∧ Below w.heap.size w w' := by
  unfold cartoucheref08_Find.f at h
  split at h
  · rename_i hn
    have h1 := r08_find w A0 l0.length c0 (evs l0) a1 (evs_of hr0 hn)
    simp only [Option.some.injEq, Prod.mk.injEq] at h
    obtain ⟨rfl, rfl, rfl, rfl, rfl⟩ := h
    exact h1
  · cases h

def cartoucheref08_Formed.f (l0 : List S50)  : Option (Int × Int) := if l0.length ≤ 140737488351232 then some ((formed (evs l0)).1, (formed (evs l0)).2) else none
theorem cartoucheref08_Formed.calls (A0 : Option Addr) (c0 : Nat) (l0 : List S50)  (r1 : Int) (r2 : Int) (w : World) (hr0 : YtebjiimlcnmfpaaGreatW.PrintWords.Kd.C k50 w A0 l0.length l0) (hc0 : l0.length ≤ c0) (h : cartoucheref08_Formed.f l0  = some (r1, r2)) :
    Calls Tryz.prog 32 #[.slice A0 l0.length c0] w fun e w' => e = .returned (.tuple #[.int .i64 r1, .int .i64 r2]) ∧ Below w.heap.size w w' := by
  unfold cartoucheref08_Formed.f at h
  split at h
  · rename_i hn
    have h1 := r08_formed w A0 l0.length c0 (evs l0) (evs_of hr0 hn)
    simp only [Option.some.injEq, Prod.mk.injEq] at h
    obtain ⟨rfl, rfl⟩ := h
    exact h1
  · cases h

end
end Go.Proofs.YtebjiimlcnmfpaaGreatPr

/-! The contract of history.Versions, in the words of the printed ones. -/
namespace Go.Proofs.YtebjiimlcnmfpaaGreatPr
open Go.Proofs.YtebjiimlcnmfpaaGreat
section
open Go Go.RowKit

def history_Versions.f (l0 : List S50) (a1 : ByteArray) : Option (List Int) := if l0.length ≤ 1000 then some (versions (evs l0) a1) else none
theorem history_Versions.calls (A0 : Option Addr) (c0 : Nat) (l0 : List S50) (a1 : ByteArray) (r : List Int) (w : World) (hr0 : YtebjiimlcnmfpaaGreatW.PrintWords.Kd.C k50 w A0 l0.length l0) (hc0 : l0.length ≤ c0) (h : history_Versions.f l0 a1 = some r) :
    Calls Tryz.prog 87 #[.slice A0 l0.length c0, .string a1] w fun e w' => ∃ v0_ : Value, e = .returned (v0_) ∧ YtebjiimlcnmfpaaGreatW.PrintWords.Kd.R (YtebjiimlcnmfpaaGreatW.PrintWords.Kd.int .i64) 3 w' w.heap.size (fun _ => True) v0_ r ∧ Below w.heap.size w w' := by
  unfold history_Versions.f at h
  split at h
  · rename_i hn
    have h1 := h_versions w A0 l0.length c0 (evs l0) a1 (evs_of hr0 (by omega)) hn hc0
    injection h with h
    refine h1.mono fun e w' ⟨v, he, ho, hx⟩ => ⟨v, he, ?_, hx⟩
    rw [← h]
    have := r_of (YtebjiimlcnmfpaaGreatW.PrintWords.Kd.int .i64) 3 (fun x : Int => [.int .i64 x]) id (fun w base ok y => rfl) (fun _ => rfl) (w := w') (base := w.heap.size) (v := v) (ys := versions (evs l0) a1) ho
    rwa [List.map_id] at this
  · cases h
end
end Go.Proofs.YtebjiimlcnmfpaaGreatPr

/-! Plain laws: where the events of a well formed history stand; printed reads as events. -/
namespace Go.Proofs.YtebjiimlcnmfpaaGreat
section
open Go Go.RowKit

/-- Of a well formed history each event stands between its transaction's beginning and its end. -/
theorem Wf.shape {l : List Ev} (h : Wf l) {j : Nat} (hj : j < l.length) : ∃ f e : Nat, firstOf l (nth l j).txn = f ∧ endOf l (nth l j).txn = e ∧ f ≤ j ∧ j ≤ e ∧ e < l.length ∧ ((nth l j).kind = 1 ↔ j = f) ∧ (4 ≤ (nth l j).kind ↔ j = e) ∧ (nth l e).txn = (nth l j).txn ∧ ends (nth l e) = true := by
  rcases idx_nth (isOf (nth l j).txn) l with ⟨_, h2⟩ | ⟨f, hf, hf1, hf2, hf3⟩
  · have := h2 j hj; simp [isOf] at this
  rcases idx_nth (endsOf (nth l j).txn) l with ⟨h1, _⟩ | ⟨e, he, he1, he2, he3⟩
  · have := h.clos j hj; rw [endOf, h1] at this; omega
  have hff : (nth l f).txn = (nth l j).txn := by simpa [isOf] using hf2
  have hfj : f ≤ j := by
    rcases Nat.lt_or_ge j f with hlt | hge
    · have := hf3 j hlt; simp [isOf] at this
    · exact hge
  have hee : (nth l e).txn = (nth l j).txn ∧ ends (nth l e) = true := by simpa [endsOf] using he2
  have hfe : f ≤ e := by
    rcases Nat.lt_or_ge e f with hlt | hge
    · have := hf3 e hlt; simp [isOf, hee.1] at this
    · exact hge
  have k1 : (nth l j).kind = 1 → j = f := fun hk => by
    rcases Nat.lt_or_ge f j with hlt | hge
    · have hs := h.step j hj
      unfold stepErr at hs
      rw [if_neg (by rw [(may_iff _).2 (h.may hj)]; simp), if_pos hk] at hs
      split at hs
      · cases hs
      · rename_i hn
        rcases idx_nth (isOf (nth l j).txn) (l.take j) with ⟨_, h2⟩ | ⟨q, _, hq, _⟩
        · have := h2 f (by simp; omega)
          rw [nth_take hlt] at this
          simp [isOf, hff] at this
        · rw [firstOf, hq] at hn; omega
    · omega
  have k2 : (nth l f).kind = 1 := by
    by_cases hk : (nth l f).kind = 1
    · exact hk
    · have h1 := (h.mid hf hk).1
      rcases idx_nth (isOf (nth l f).txn) (l.take f) with ⟨hq, _⟩ | ⟨q, hq0, hq, hq2, _⟩
      · rw [firstOf, hq] at h1; omega
      · have hqf : q < f := by simp at hq0; omega
        rw [nth_take hqf, hff] at hq2
        have := hf3 q hqf
        rw [this] at hq2; cases hq2
  have hje : j ≤ e := by
    rcases Nat.lt_or_ge e j with hlt | hge
    · have hk : (nth l j).kind ≠ 1 := fun hk => by have := k1 hk; omega
      have := h.noEnd hj hk hlt hee.1
      rw [hee.2] at this; cases this
    · exact hge
  refine ⟨f, e, hf1, he1, hfj, hje, he, ⟨k1, fun e' => by rw [e']; exact k2⟩, ⟨fun hk => ?_, fun e' => ?_⟩, hee.1, hee.2⟩
  · rcases Nat.lt_or_ge j e with hlt | hge
    · have := he3 j hlt
      have hm := h.may hj
      have : ends (nth l j) = true := by
        unfold ends
        have := hm.2.1
        rcases (show (nth l j).kind = 4 ∨ (nth l j).kind = 5 by omega) with h4 | h5
        · simp [h4]
        · simp [h5]
      simp_all [endsOf]
    · omega
  · have := hee.2
    unfold ends at this
    rw [← e'] at this
    simp at this
    omega
theorem findL_shape {l : List Ev} {t : Int} {f e : Nat} (hf : firstOf l t = f) (he : endOf l t = e) : findL l t = (⟨t, f, e, (nth l e).kind == 4⟩, true) := by
  unfold findL
  rw [hf, he, if_neg (by omega), if_neg (by omega)]
  simp

end
end Go.Proofs.YtebjiimlcnmfpaaGreat

/-! Plain laws: beginnings of a history, and a history with more behind it. -/
namespace Go.Proofs.YtebjiimlcnmfpaaGreat
section
open Go Go.RowKit

theorem firstErr_says {f : Nat → Int} : ∀ (m i : Nat), ((firstErr f m i).2 = 0 ∧ (firstErr f m i).1 = ((i + m : Nat) : Int) ∧ ∀ j, i ≤ j → j < i + m → f j = 0) ∨ ∃ j : Nat, i ≤ j ∧ j < i + m ∧ firstErr f m i = ((j : Int), f j) ∧ f j ≠ 0 ∧ ∀ q, i ≤ q → q < j → f q = 0
  | 0, i => .inl ⟨rfl, by simp [firstErr], fun j h1 h2 => by omega⟩
  | m + 1, i => by
    unfold firstErr
    by_cases h : f i = 0
    · rw [if_pos h]
      rcases firstErr_says (f := f) m (i + 1) with ⟨h1, h2, h3⟩ | ⟨j, h1, h2, h3, h4, h5⟩
      · refine .inl ⟨h1, by rw [h2]; omega, fun j a b => ?_⟩
        by_cases e : j = i
        · rw [e]; exact h
        · exact h3 j (by omega) (by omega)
      · refine .inr ⟨j, by omega, by omega, h3, h4, fun q a b => ?_⟩
        by_cases e : q = i
        · rw [e]; exact h
        · exact h5 q (by omega) b
    · rw [if_neg h]
      exact .inr ⟨i, by omega, by omega, rfl, h, fun q a b => by omega⟩
theorem firstErr_congr {f g : Nat → Int} : ∀ (m i : Nat), (∀ j, i ≤ j → j < i + m → f j = g j) → firstErr f m i = firstErr g m i
  | 0, _, _ => rfl
  | m + 1, i, h => by
    unfold firstErr
    rw [h i (by omega) (by omega), firstErr_congr m (i + 1) fun j a b => h j (by omega) (by omega)]
/-- What follows from an error at a place. -/
theorem firstErr_at {f : Nat → Int} {m j : Nat} (hj : j < m) (h : f j ≠ 0) (h0 : ∀ q, q < j → f q = 0) : firstErr f m 0 = ((j : Int), f j) := by
  rcases firstErr_says (f := f) m 0 with ⟨_, _, h3⟩ | ⟨q, _, h2, h3, h4, h5⟩
  · exact absurd (h3 j (by omega) (by omega)) h
  · rcases Nat.lt_trichotomy q j with hlt | rfl | hgt
    · exact absurd (h0 q hlt) h4
    · exact h3
    · exact absurd (h5 j (by omega) hgt) h

theorem openErr_or (h : List Ev) (i : Nat) : openErr h i = 0 ∨ openErr h i = 9 := by unfold openErr; split <;> simp
theorem formed_steps {l : List Ev} (hl : l.length ≤ 256) (h : ∀ j, j < l.length → stepErr l j = 0) : (formed l).1 = l.length ∧ ((formed l).2 = 0 ∨ (formed l).2 = 9) := by
  have h1 := firstErr_of (f := stepErr l) (m := l.length) (i := 0) (fun j _ hj => h j (by omega))
  unfold formed
  rw [if_neg (by omega), h1, if_neg (by simp)]
  refine ⟨rfl, ?_⟩
  rcases firstErr_says (f := openErr l) l.length 0 with ⟨h1, _⟩ | ⟨j, _, _, h3, _⟩
  · exact .inl h1
  · show (firstErr (openErr l) l.length 0).2 = 0 ∨ _
    rw [h3]; exact openErr_or l j
/-- A history at which a step is wrong. -/
theorem formed_at {l : List Ev} (hl : l.length ≤ 256) {j : Nat} (hj : j < l.length) (h : stepErr l j ≠ 0) (h0 : ∀ q, q < j → stepErr l q = 0) : formed l = ((j : Int), stepErr l j) := by
  have h1 := firstErr_at hj h h0
  unfold formed
  rw [if_neg (by omega), h1, if_pos h]
theorem formed_cases {l : List Ev} (hl : l.length ≤ 256) : (∀ j, j < l.length → stepErr l j = 0) ∨ ∃ j, j < l.length ∧ stepErr l j ≠ 0 ∧ ∀ q, q < j → stepErr l q = 0 := by
  rcases firstErr_says (f := stepErr l) l.length 0 with ⟨_, _, h3⟩ | ⟨j, _, h2, _, h4, h5⟩
  · exact .inl fun j hj => h3 j (by omega) (by omega)
  · exact .inr ⟨j, by omega, h4, fun q hq => h5 q (by omega) hq⟩

theorem take_take_le {l : List Ev} {i n : Nat} (h : i ≤ n) : (l.take n).take i = l.take i := by rw [List.take_take, Nat.min_eq_left h]
/-- Of a history without reads a beginning's steps are as wrong as its own. -/
theorem stepErr_take {l : List Ev} (hr : ∀ x ∈ l, x.kind ≠ 2) {n i : Nat} (hi : i < n) (hn : n ≤ l.length) : stepErr (l.take n) i = stepErr l i := by
  have h2 : (nth l i).kind ≠ 2 := by
    rw [nth_lt (show i < l.length by omega)]
    exact hr _ (List.getElem_mem _)
  unfold stepErr
  rw [nth_take hi, take_take_le (by omega)]
  have e : ∀ a b : Prop, ¬ ((nth l i).kind = 2 ∧ a ∧ b) := fun a b h => h2 h.1
  simp only [e, if_false]

theorem idx_append_hit {p : Ev → Bool} : ∀ (l r : List Ev) (i : Int), 0 ≤ idx p l i → 0 ≤ i → idx p (l ++ r) i = idx p l i
  | [], r, i, h, _ => by simp [idx] at h
  | x :: l, r, i, h, hi => by
    rw [List.cons_append, idx_cons, idx_cons]
    by_cases hp : p x = true
    · rw [if_pos hp, if_pos hp]
    · rw [if_neg hp, if_neg hp]
      rw [idx_cons, if_neg hp] at h
      exact idx_append_hit l r (i + 1) h (by omega)
theorem nth_append {l r : List Ev} {i : Nat} (h : i < l.length) : nth (l ++ r) i = nth l i := by
  unfold nth; rw [List.getD_eq_getElem?_getD, List.getD_eq_getElem?_getD, List.getElem?_append_left h]
theorem nth_append_right {l r : List Ev} {i : Nat} : nth (l ++ r) (l.length + i) = nth r i := by
  unfold nth; rw [List.getD_eq_getElem?_getD, List.getD_eq_getElem?_getD, List.getElem?_append_right (by omega), Nat.add_sub_cancel_left]
theorem take_append_le {l r : List Ev} {i : Nat} (h : i ≤ l.length) : (l ++ r).take i = l.take i := List.take_append_of_le_length h

theorem firstOf_none {l : List Ev} {t : Int} (h : ∀ i, i < l.length → (nth l i).txn ≠ t) : firstOf l t = -1 := by
  rcases idx_nth (isOf t) l with ⟨h1, _⟩ | ⟨k, hk, _, h2, _⟩
  · exact h1
  · exact absurd (by simpa [isOf] using h2) (h k hk)
theorem firstOf_neg {l : List Ev} {t : Int} (h : firstOf l t < 0) : ∀ i, i < l.length → (nth l i).txn ≠ t := by
  rcases idx_nth (isOf t) l with ⟨_, h2⟩ | ⟨k, _, h2, _⟩
  · intro i hi e
    have := h2 i hi
    simp [isOf, e] at this
  · rw [firstOf, h2] at h; omega
theorem firstOf_is {l : List Ev} {t : Int} {k : Nat} (hk : k < l.length) (h : (nth l k).txn = t) (h0 : ∀ j, j < k → (nth l j).txn ≠ t) : firstOf l t = k := by
  rcases idx_nth (isOf t) l with ⟨_, h2⟩ | ⟨q, hq, h1, h2, h3⟩
  · have := h2 k hk; simp [isOf, h] at this
  · have h2' : (nth l q).txn = t := by simpa [isOf] using h2
    rcases Nat.lt_trichotomy q k with hlt | rfl | hgt
    · exact absurd h2' (h0 q hlt)
    · exact h1
    · have := h3 k hgt; simp [isOf, h] at this
theorem endOf_is {l : List Ev} {t : Int} {k : Nat} (hk : k < l.length) (h : (nth l k).txn = t) (he : ends (nth l k) = true) (h0 : ∀ j, j < k → (nth l j).txn = t → ends (nth l j) = false) : endOf l t = k := by
  rcases idx_nth (endsOf t) l with ⟨_, h2⟩ | ⟨q, hq, h1, h2, h3⟩
  · have := h2 k hk; simp [endsOf, h, he] at this
  · have h2' : (nth l q).txn = t ∧ ends (nth l q) = true := by simpa [endsOf] using h2
    rcases Nat.lt_trichotomy q k with hlt | rfl | hgt
    · have := h0 q hlt h2'.1; rw [h2'.2] at this; cases this
    · exact h1
    · have := h3 k hgt; simp [endsOf, h, he] at this
theorem endOf_none {l : List Ev} {t : Int} (h : ∀ j, j < l.length → (nth l j).txn = t → ends (nth l j) = false) : endOf l t = -1 := by
  rcases idx_nth (endsOf t) l with ⟨h1, _⟩ | ⟨k, hk, _, h2, _⟩
  · exact h1
  · have h2' : (nth l k).txn = t ∧ ends (nth l k) = true := by simpa [endsOf] using h2
    have := h k hk h2'.1
    rw [h2'.2] at this; cases this

/-- With a transaction behind that only begins and ends, a well formed history is one. -/
theorem Wf.grows {l : List Ev} (h : Wf l) {t c : Int} (ht : firstOf l t < 0) (h1 : 1 ≤ t) (h2 : t ≤ 32) (hc : c = 4 ∨ c = 5) (hl : l.length ≤ 254) :
    Wf (l ++ [⟨1, t, ⟨#[]⟩, ⟨#[]⟩⟩, ⟨c, t, ⟨#[]⟩, ⟨#[]⟩⟩]) ∧ firstOf (l ++ [⟨1, t, ⟨#[]⟩, ⟨#[]⟩⟩, ⟨c, t, ⟨#[]⟩, ⟨#[]⟩⟩]) t = l.length ∧ endOf (l ++ [⟨1, t, ⟨#[]⟩, ⟨#[]⟩⟩, ⟨c, t, ⟨#[]⟩, ⟨#[]⟩⟩]) t = ((l.length + 1 : Nat) : Int) := by
  generalize hk : l ++ [⟨1, t, ⟨#[]⟩, ⟨#[]⟩⟩, ⟨c, t, ⟨#[]⟩, ⟨#[]⟩⟩] = k
  have hlen : k.length = l.length + 2 := by rw [← hk]; simp
  have hno := firstOf_neg ht
  have n0 : nth k l.length = ⟨1, t, ⟨#[]⟩, ⟨#[]⟩⟩ := by rw [← hk]; exact nth_append_right (i := 0)
  have n1 : nth k (l.length + 1) = ⟨c, t, ⟨#[]⟩, ⟨#[]⟩⟩ := by rw [← hk]; exact nth_append_right (i := 1)
  have nl : ∀ {i}, i < l.length → nth k i = nth l i := fun hi => by rw [← hk]; exact nth_append hi
  have tl : ∀ {i}, i ≤ l.length → k.take i = l.take i := fun hi => by rw [← hk]; exact take_append_le hi
  have f1 : firstOf k t = l.length := firstOf_is (by omega) (by rw [n0]) (fun j hj => by rw [nl hj]; exact hno j hj)
  have en : ends (nth k (l.length + 1)) = true := by rw [n1]; rcases hc with rfl | rfl <;> rfl
  have e1 : endOf k t = ((l.length + 1 : Nat) : Int) := endOf_is (by omega) (by rw [n1]) en (fun j hj hjt => by
    by_cases e : j = l.length
    · rw [e, n0]; rfl
    · rw [nl (show j < l.length by omega)] at hjt
      exact absurd hjt (hno j (by omega)))
  refine ⟨⟨by omega, fun j hj => ?_, fun j hj => ?_⟩, f1, e1⟩
  · by_cases hjl : j < l.length
    · have hs := h.step j hjl
      unfold stepErr at hs ⊢
      rw [nl hjl, tl (by omega)]
      have hP : writer k (nth l j).key (nth l j).val < 0 → writer l (nth l j).key (nth l j).val < 0 := fun hneg => by
        rcases Int.lt_or_le (writer l (nth l j).key (nth l j).val) 0 with hlt | hge
        · exact hlt
        · have := idx_append_hit (p := writes (nth l j).key (nth l j).val) l [⟨1, t, ⟨#[]⟩, ⟨#[]⟩⟩, ⟨c, t, ⟨#[]⟩, ⟨#[]⟩⟩] 0 hge (by omega)
          rw [hk] at this
          unfold writer at hneg hge ⊢
          omega
      by_cases c1 : Go.Proofs.YtebjiimlcnmfpaaGreat.may (nth l j) = false
      · rw [if_pos c1] at hs; cases hs
      · rw [if_neg c1] at hs ⊢
        by_cases c2 : (nth l j).kind = 1
        · rw [if_pos c2] at hs ⊢; exact hs
        · rw [if_neg c2] at hs ⊢
          by_cases c3 : firstOf (l.take j) (nth l j).txn < 0
          · rw [if_pos c3] at hs; cases hs
          · rw [if_neg c3] at hs ⊢
            by_cases c4 : 0 ≤ endOf (l.take j) (nth l j).txn
            · rw [if_pos c4] at hs; cases hs
            · rw [if_neg c4] at hs ⊢
              by_cases c5 : (nth l j).kind = 3 ∧ (l.take j).any (twice (nth l j)) = true
              · rw [if_pos c5] at hs; cases hs
              · rw [if_neg c5] at hs ⊢
                by_cases c6 : (nth l j).kind = 2 ∧ (nth l j).val.size ≠ 0 ∧ writer k (nth l j).key (nth l j).val < 0
                · rw [if_pos ⟨c6.1, c6.2.1, hP c6.2.2⟩] at hs; cases hs
                · rw [if_neg c6]
    · by_cases hj0 : j = l.length
      · subst hj0
        unfold stepErr
        have hm : Go.Proofs.YtebjiimlcnmfpaaGreat.may (nth k l.length) = true := by
          rw [n0, may_iff]
          exact ⟨by simp only; omega, by simp only; omega, h1, h2, .inr ⟨by simp only; omega, by simp only; omega, rfl, rfl⟩⟩
        rw [if_neg (by rw [hm]; simp), n0, if_pos rfl, tl (Nat.le_refl _), List.take_length, if_neg (by simp only; omega)]
      · obtain rfl : j = l.length + 1 := by omega
        have hm : Go.Proofs.YtebjiimlcnmfpaaGreat.may (nth k (l.length + 1)) = true := by
          rw [n1, may_iff]
          refine ⟨by simp only; omega, by simp only; omega, h1, h2, .inr ⟨by simp only; omega, by simp only; omega, rfl, rfl⟩⟩
        have tk : ∀ i, i < l.length + 1 → nth (k.take (l.length + 1)) i = nth k i := fun i hi => nth_take hi
        have lk : (k.take (l.length + 1)).length = l.length + 1 := by simp; omega
        have a1 : firstOf (k.take (l.length + 1)) t = l.length := firstOf_is (by omega) (by rw [tk _ (by omega), n0]) (fun j hj => by rw [tk _ (by omega), nl hj]; exact hno j hj)
        have a2 : endOf (k.take (l.length + 1)) t = -1 := endOf_none (fun j hj hjt => by
          rw [tk _ (by omega)] at hjt ⊢
          by_cases e : j = l.length
          · rw [e, n0]; rfl
          · rw [nl (show j < l.length by omega)] at hjt
            exact absurd hjt (hno j (by omega)))
        unfold stepErr
        rw [if_neg (by rw [hm]; simp), n1]
        simp only
        rw [if_neg (by omega), a1, if_neg (by omega), a2, if_neg (by omega), if_neg (fun q => by omega), if_neg (fun q => by omega)]
  · by_cases hjl : j < l.length
    · rw [nl hjl]
      have h3 := h.clos j hjl
      have := idx_append_hit (p := endsOf (nth l j).txn) l [⟨1, t, ⟨#[]⟩, ⟨#[]⟩⟩, ⟨c, t, ⟨#[]⟩, ⟨#[]⟩⟩] 0 h3 (by omega)
      rw [hk] at this
      unfold endOf at h3 ⊢
      omega
    · have : (nth k j).txn = t := by
        by_cases e : j = l.length
        · rw [e, n0]
        · obtain rfl : j = l.length + 1 := by omega
          rw [n1]
      rw [this, e1]; omega
end
end Go.Proofs.YtebjiimlcnmfpaaGreat
