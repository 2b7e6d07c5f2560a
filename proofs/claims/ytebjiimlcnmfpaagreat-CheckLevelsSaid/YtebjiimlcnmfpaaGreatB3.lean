/-
  All keys of a history, as a list; the contract of history.Keys, in the words of the printed ones.
-/
import Derived.Test.YtebjiimlcnmfpaaGreatA9
import Derived.Test.YtebjiimlcnmfpaaGreatB1
set_option linter.unusedVariables false
set_option linter.unusedSimpArgs false
namespace Go.Proofs.YtebjiimlcnmfpaaGreat
section
open Go

/-- A key laid into a rising list of keys, if it isn't there. -/
def insKey (x : List UInt8) : List (List UInt8) → List (List UInt8)
  | [] => [x]
  | y :: r => if x < y then x :: y :: r else if x = y then y :: r else y :: insKey x r
def keysFold : List (List UInt8) → List (List UInt8) → List (List UInt8)
  | acc, [] => acc
  | acc, x :: r => keysFold (insKey x acc) r
def keysSpec (l : List Go.Proofs.YtebjiimlcnmfpaaGreat.Ev) : List (List UInt8) := keysFold [] (keyBytes l)
theorem mem_insKey (x y : List UInt8) : ∀ r, y ∈ insKey x r ↔ y = x ∨ y ∈ r
  | [] => by simp [insKey]
  | z :: r => by
    unfold insKey
    split
    · simp
    · split
      · rename_i h; subst h; simp
      · rw [List.mem_cons, mem_insKey x y r, List.mem_cons]
        constructor
        · rintro (h | h | h)
          · exact .inr (.inl h)
          · exact .inl h
          · exact .inr (.inr h)
        · rintro (h | h | h)
          · exact .inr (.inl h)
          · exact .inl h
          · exact .inr (.inr h)
theorem lt_tri {x y : List UInt8} (h1 : ¬ x < y) (h2 : x ≠ y) : y < x := by
  rcases List.le_total x y with h | h
  · exact absurd (Std.lt_of_le_of_ne h h2) h1
  · exact Std.lt_of_le_of_ne h (fun e => h2 e.symm)
theorem insKey_sorted (x : List UInt8) : ∀ r : List (List UInt8), r.Pairwise (· < ·) → (insKey x r).Pairwise (· < ·)
  | [], _ => by simp [insKey]
  | z :: r, h => by
    have h' := List.pairwise_cons.1 h
    unfold insKey
    split
    · rename_i hlt
      refine List.Pairwise.cons (fun y hy => ?_) h
      rcases List.mem_cons.1 hy with rfl | hy
      · exact hlt
      · exact List.lt_trans hlt (h'.1 y hy)
    · rename_i hn
      split
      · exact h
      · rename_i hne
        refine List.Pairwise.cons (fun y hy => ?_) (insKey_sorted x r h'.2)
        rcases (mem_insKey x y r).1 hy with rfl | hy
        · exact lt_tri hn hne
        · exact h'.1 y hy
theorem keysFold_are : ∀ (ks acc : List (List UInt8)), acc.Pairwise (· < ·) → (keysFold acc ks).Pairwise (· < ·) ∧ ∀ y, y ∈ keysFold acc ks ↔ y ∈ acc ∨ y ∈ ks
  | [], acc, h => ⟨h, fun y => by simp [keysFold]⟩
  | x :: r, acc, h => by
    obtain ⟨h1, h2⟩ := keysFold_are r (insKey x acc) (insKey_sorted x acc h)
    refine ⟨h1, fun y => ?_⟩
    rw [show keysFold acc (x :: r) = keysFold (insKey x acc) r from rfl, h2 y, mem_insKey, List.mem_cons]
    constructor
    · rintro ((h | h) | h)
      · exact .inr (.inl h)
      · exact .inl h
      · exact .inr (.inr h)
    · rintro (h | h | h)
      · exact .inl (.inr h)
      · exact .inl (.inl h)
      · exact .inr h
theorem keysSpec_are (l : List Go.Proofs.YtebjiimlcnmfpaaGreat.Ev) : KeysAre l (keysSpec l) := by
  obtain ⟨h1, h2⟩ := keysFold_are (keyBytes l) [] List.Pairwise.nil
  exact ⟨h1, fun x => by rw [keysSpec, h2 x]; simp⟩
theorem rising_unique {a b : List (List UInt8)} (ha : a.Pairwise (· < ·)) (hb : b.Pairwise (· < ·)) (h : ∀ x, x ∈ a ↔ x ∈ b) : a = b := by
  have na : a.Nodup := ha.imp (fun {x y} hxy e => by subst e; exact List.lt_irrefl _ hxy)
  have nb : b.Nodup := hb.imp (fun {x y} hxy e => by subst e; exact List.lt_irrefl _ hxy)
  refine List.Perm.eq_of_pairwise (le := fun x y : List UInt8 => x < y) (fun x y _ _ h1 h2 => ?_) ha hb ((List.perm_ext_iff_of_nodup na nb).2 h)
  exact absurd (List.lt_trans h1 h2) (List.lt_irrefl _)
theorem keysAre_unique {l : List Go.Proofs.YtebjiimlcnmfpaaGreat.Ev} {r : List (List UInt8)} (h : KeysAre l r) : r = keysSpec l :=
  rising_unique h.1 (keysSpec_are l).1 fun x => by rw [h.2 x, (keysSpec_are l).2 x]
def toBA (b : List UInt8) : ByteArray := ⟨b.toArray⟩
theorem toBA_data (b : List UInt8) : (toBA b).data.toList = b := rfl
theorem toBA_self (x : ByteArray) : toBA x.data.toList = x := rfl
end
end Go.Proofs.YtebjiimlcnmfpaaGreat

namespace Go.Proofs.YtebjiimlcnmfpaaGreatPr
section
open Go Go.RowKit Go.Proofs.YtebjiimlcnmfpaaGreat

def history_Keys.f (l0 : List (S50)) : Option (List ByteArray) := if l0.length ≤ 1000000 ∧ ∀ x ∈ l0, x.f2.size ≤ 9223372036854775807 then some ((keysSpec (evs l0)).map toBA) else none
theorem history_Keys.calls (A0 : Option Addr) (c0 : Nat) (l0 : List (S50)) (r : List ByteArray) (w : World) (hr0 : YtebjiimlcnmfpaaGreatW.PrintWords.Kd.C k50 w A0 l0.length l0) (hc0 : l0.length ≤ c0) (h : history_Keys.f l0 = some r) :
    Calls Tryz.prog 47 #[.slice A0 l0.length c0] w fun e w' => ∃ v0_ : Value, e = .returned (v0_) ∧ YtebjiimlcnmfpaaGreatW.PrintWords.Kd.R YtebjiimlcnmfpaaGreatW.PrintWords.Kd.string 9 w' w.heap.size (fun _ => True) v0_ r ∧ Below w.heap.size w w' := by
  unfold history_Keys.f at h
  split at h
  · rename_i hn
    have h1 := h_keys w A0 l0.length c0 (evs l0) (evs_of hr0 (by omega)) hn.1 (fun x hx => by
      obtain ⟨y, hy, rfl⟩ := List.mem_map.1 hx
      exact hn.2 y hy)
    injection h with h
    refine h1.mono fun e w' ⟨v, r', he, hk, ho, hx⟩ => ⟨v, he, ?_, hx⟩
    rw [← h, ← keysAre_unique hk]
    have e1 : r'.map Go.Proofs.encStr = r'.flatMap (fun b => [Value.string (toBA b)]) := by
      rw [List.map_eq_flatMap]; rfl
    rw [e1] at ho
    exact r_of YtebjiimlcnmfpaaGreatW.PrintWords.Kd.string 9 (fun b => [Value.string (toBA b)]) toBA (fun w base ok y => rfl) (fun _ => rfl) ho
  · cases h
end
end Go.Proofs.YtebjiimlcnmfpaaGreatPr
