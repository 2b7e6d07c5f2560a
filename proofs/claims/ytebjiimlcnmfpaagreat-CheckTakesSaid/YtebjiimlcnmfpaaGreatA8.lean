/-
  For the rows.
-/
import Derived.Deep.Slices
import Derived.Deep.Fields
import Derived.ChangeSame
import Derived.SizedLaws
import Derived.ChangeOld
import Derived.Below
import Derived.ProofKit
import Derived.Test.YtebjiimlcnmfpaaGreatA1
import Derived.Test.YtebjiimlcnmfpaaGreatRows
import Derived.Test.YtebjiimlcnmfpaaGreatProg
/-! For the rows: a slice among the arguments, read as a list; how long it may be. -/
set_option linter.unusedVariables false
set_option linter.unusedSimpArgs false
namespace Go.Proofs.YtebjiimlcnmfpaaGreat
section
open Go Go.RowKit Go.Proofs Go.ChangeShapes Go.WideShapes Go.Deep
set_option linter.unusedSimpArgs false
set_option linter.unusedVariables false

section
variable {H : Type} {enc : TypeId × Value → H} {P : Program} {w : World} {base : Nat} {spare : Nat → Bool} {held : Bool}

theorem trod_lts {t : TypeId} {v : Value} {d : DataW H} {p : List MemPlace} (h : DataW.Trod enc P w base spare held t v d p) : ∀ x ∈ p, x.block < w.heap.size := by
  obtain ⟨m, hm⟩ := h; exact DataW.trod_lt m _ _ _ hm
end

/-- What of an event is sure. -/
def EvQ (x : Ev) : Prop := (Lit.int .i64 x.kind).wf = true ∧ (Lit.int .i64 x.txn).wf = true ∧ x.key.size ≤ maxLen ∧ x.val.size ≤ maxLen

set_option maxRecDepth 100000 in
theorem trod_ev {H : Type} {enc : TypeId × Value → H} {base : Nat} {spare : Nat → Bool} {held : Bool} (W : World) (m : Nat) (cs : List Value) (x : DataW H × List MemPlace)
    (h : DataW.trod enc Tryz.prog W base spare held m 50 cs = some x) (hc : cs.length = kEv.sz) : ∃ v, kEv.R W v cs ∧ EvQ v := by
  obtain ⟨xs, n, _, _, _, hl, hg⟩ := DataW.trod_struct (Tryz.underlying50) h
  match cs, hc with
  | [c0, c1, c2, c3], _ =>
    have g0 := hg 0 _ rfl
    have g1 := hg 1 _ rfl
    have g2 := hg 2 _ rfl
    have g3 := hg 3 _ rfl
    match xs, hl with
    | [y0, y1, y2, y3], _ =>
      obtain ⟨a0, e0, _, w0⟩ := DataW.trod_int (k := .i64) (by kernel_rfl) g0
      obtain ⟨a1, e1, _, w1⟩ := DataW.trod_int (k := .i64) (by kernel_rfl) g1
      obtain ⟨a2, e2, _, w2⟩ := DataW.trod_string (by kernel_rfl) g2
      obtain ⟨a3, e3, _, w3⟩ := DataW.trod_string (by kernel_rfl) g3
      have h1 : Tryz.prog.cellsOf 3 = 1 := by kernel_rfl
      have h2 : Tryz.prog.cellsOf 9 = 1 := by kernel_rfl
      simp [h1, h2] at e0 e1 e2 e3
      subst e0 e1 e2 e3
      exact ⟨⟨a0, a1, a2, a3⟩, rfl, w0, w1, w2, w3⟩
end
end Go.Proofs.YtebjiimlcnmfpaaGreat

/-! The dump's head, read once: what of it the rows ask. -/
namespace Go.Proofs.YtebjiimlcnmfpaaGreat
section
open Go
set_option maxRecDepth 100000
def headCodes : List Nat := [104, 97, 114, 110, 101, 115, 115, 32, 52, 57, 99, 51, 97, 54, 53, 48, 48, 55, 56, 97, 50, 51, 50, 49, 102, 48, 54, 50, 53, 102, 51, 48, 101, 56, 101, 101, 99, 54, 49, 53, 50, 51, 48, 56, 100, 101, 52, 56, 56, 98, 98, 51, 49, 55, 49, 57, 99, 51, 49, 48, 48, 51, 48, 101, 100, 49, 97, 49, 99, 57, 102, 100, 32, 99, 117, 116, 32, 97, 116, 32, 99, 97, 114, 116, 111, 117, 99, 104, 101, 47, 99, 97, 114, 116, 111, 117, 99, 104, 101, 108, 97, 119, 49, 48, 46, 69, 100, 103, 101, 115, 84, 101, 108, 108, 32, 99, 97, 114, 116, 111, 117, 99, 104, 101, 47, 99, 97, 114, 116, 111, 117, 99, 104, 101, 108, 97, 119, 49, 50, 46, 74, 117, 100, 103, 101, 70, 108, 97, 116, 32, 99, 97, 114, 116, 111, 117, 99, 104, 101, 47, 99, 97, 114, 116, 111, 117, 99, 104, 101, 108, 97, 119, 49, 50, 46, 74, 117, 100, 103, 101, 71, 111, 111, 100, 32, 99, 97, 114, 116, 111, 117, 99, 104, 101, 47, 99, 97, 114, 116, 111, 117, 99, 104, 101, 108, 97, 119, 49, 50, 46, 74, 117, 100, 103, 101, 76, 101, 118, 101, 108, 115, 32, 99, 97, 114, 116, 111, 117, 99, 104, 101, 47, 99, 97, 114, 116, 111, 117, 99, 104, 101, 108, 97, 119, 49, 50, 46, 74, 117, 100, 103, 101, 65, 108, 111, 110, 101, 32, 99, 97, 114, 116, 111, 117, 99, 104, 101, 47, 99, 97, 114, 116, 111, 117, 99, 104, 101, 108, 97, 119, 49, 50, 46, 74, 117, 100, 103, 101, 82, 105, 110, 103, 32, 99, 97, 114, 116, 111, 117, 99, 104, 101, 47, 99, 97, 114, 116, 111, 117, 99, 104, 101, 108, 97, 119, 49, 51, 46, 67, 104, 101, 99, 107, 84, 101, 108, 108, 115, 32, 99, 97, 114, 116, 111, 117, 99, 104, 101, 47, 99, 97, 114, 116, 111, 117, 99, 104, 101, 108, 97, 119, 49, 51, 46, 67, 104, 101, 99, 107, 82, 105, 103, 104, 116, 32, 99, 97, 114, 116, 111, 117, 99, 104, 101, 47, 99, 97, 114, 116, 111, 117, 99, 104, 101, 108, 97, 119, 49, 51, 46, 67, 104, 101, 99, 107, 84, 97, 107, 101, 115, 32, 99, 97, 114, 116, 111, 117, 99, 104, 101, 47, 99, 97, 114, 116, 111, 117, 99, 104, 101, 108, 97, 119, 49, 51, 46, 67, 104, 101, 99, 107, 84, 117, 114, 110, 101, 100, 32, 99, 97, 114, 116, 111, 117, 99, 104, 101, 47, 99, 97, 114, 116, 111, 117, 99, 104, 101, 108, 97, 119, 49, 51, 46, 67, 104, 101, 99, 107, 84, 117, 114, 110, 115, 32, 99, 97, 114, 116, 111, 117, 99, 104, 101, 47, 99, 97, 114, 116, 111, 117, 99, 104, 101, 108, 97, 119, 49, 51, 46, 67, 104, 101, 99, 107, 76, 101, 118, 101, 108, 115, 32, 99, 97, 114, 116, 111, 117, 99, 104, 101, 47, 99, 97, 114, 116, 111, 117, 99, 104, 101, 108, 97, 119, 49, 51, 46, 67, 104, 101, 99, 107, 78, 111, 100, 101, 115, 32, 99, 97, 114, 116, 111, 117, 99, 104, 101, 47, 99, 97, 114, 116, 111, 117, 99, 104, 101, 108, 97, 119, 49, 50, 46, 74, 117, 100, 103, 101, 84, 101, 108, 108, 115, 32, 99, 97, 114, 116, 111, 117, 99, 104, 101, 47, 99, 97, 114, 116, 111, 117, 99, 104, 101, 108, 97, 119, 49, 50, 46, 74, 117, 100, 103, 101, 79, 110, 101]
theorem headList : Tryz.prog.initOrder.toList = headCodes.map Char.ofNat := by
  have h : Tryz.prog.initOrder = String.ofList (headCodes.map Char.ofNat) := by kernel_rfl
  rw [h, String.toList_ofList]

theorem wordsSigns_word : ∀ (w r : List Char), (w.all fun c => c.toNat != 32) = true → wordsSigns (w ++ Char.ofNat 32 :: r) = w :: wordsSigns r
  | [], r, _ => rfl
  | c :: w, r, h => by
    simp only [List.all_cons, Bool.and_eq_true, bne_iff_ne, ne_eq] at h
    have ih := wordsSigns_word w r h.2
    show wordsSigns (c :: (w ++ Char.ofNat 32 :: r)) = _
    rw [wordsSigns.eq_3 _ _ (fun he => h.1 (by rw [he]; rfl)), ih]

theorem head_words : ∃ R, behindMainWord (wordsSigns Tryz.prog.initOrder.toList) = "cut".toList :: R := by
  rw [headList]
  have e : headCodes.map Char.ofNat = "harness".toList ++ Char.ofNat 32 :: (((headCodes.drop 8).take 64).map Char.ofNat ++ Char.ofNat 32 :: ("cut".toList ++ Char.ofNat 32 :: (headCodes.drop 77).map Char.ofNat)) := by kernel_rfl
  rw [e, wordsSigns_word _ _ (by decide +kernel), wordsSigns_word _ _ (by decide +kernel), wordsSigns_word _ _ (by decide +kernel)]
  refine ⟨wordsSigns ((headCodes.drop 77).map Char.ofNat), ?_⟩
  have hc : (("harness".toList == "harness".toList || "harness".toList == "ownmain".toList) && isSumSigns (((headCodes.drop 8).take 64).map Char.ofNat)) = true := by decide +kernel
  simp only [behindMainWord, hc, if_true]

theorem lays : Tryz.prog.laysLater = false := by kernel_rfl
theorem bears : Tryz.prog.bearsReflect = false := by kernel_rfl
theorem doors : Tryz.prog.doorFits [] = true := by kernel_rfl
theorem strip (R : List (List Char)) : stripLifts liftWords ("cut".toList :: R) = ([], "cut".toList :: R) := by
  have h : ∀ os : List String, (∀ o ∈ os, ("cut".toList == o.toList) = false) → stripLifts os ("cut".toList :: R) = ([], "cut".toList :: R) := by
    intro os
    induction os with
    | nil => intro _; rfl
    | cons o os ih =>
      intro h
      unfold stripLifts
      rw [if_neg (by rw [h o (by simp)]; decide)]
      exact ih fun o ho => h o (by simp [ho])
  exact h liftWords (by decide +kernel)
theorem e_gc : ("cut".toList == "gc".toList) = false := by decide +kernel
theorem e_spec : ("cut".toList == "spec".toList) = false := by decide +kernel
theorem e_carried : ("cut".toList == "carried".toList) = false := by decide +kernel
theorem e_carried2 : (some "cut".toList == some "carried".toList) = false := by decide +kernel
theorem gen_lifts0 (P : Program) (R : List (List Char)) (h : behindMainWord (wordsSigns P.initOrder.toList) = "cut".toList :: R) : P.headLifts = [] := by
  simp only [Program.headLifts, h, strip, List.head?_cons, beq_self_eq_true, if_true]
theorem gen_mayE (P : Program) (R : List (List Char)) (h : behindMainWord (wordsSigns P.initOrder.toList) = "cut".toList :: R) (lays : P.laysLater = false) (bears : P.bearsReflect = false) (doors : P.doorFits [] = true) : P.mayEnter = true := by
  simp only [Program.mayEnter, h, strip, lays, bears, doors, e_gc, e_spec, e_carried, List.head?_cons, beq_self_eq_true, List.contains_nil, Bool.false_or, Bool.or_self, Bool.false_and, Bool.true_and, Bool.not_false, Bool.and_self, Bool.or_true]
theorem gen_liftsF (P : Program) (R : List (List Char)) (h : behindMainWord (wordsSigns P.initOrder.toList) = "cut".toList :: R) : P.liftsFinal = false := by
  simp only [Program.liftsFinal, h, gen_lifts0 P R h, List.head?_cons, e_carried2, Bool.false_and, List.contains_nil, Bool.or_self]
theorem gen_makeF (P : Program) (R : List (List Char)) (h : behindMainWord (wordsSigns P.initOrder.toList) = "cut".toList :: R) : P.make = some .cut := by
  simp only [Program.make, h, e_gc, e_spec, Bool.or_self, beq_self_eq_true, Bool.true_or, if_true, Bool.false_eq_true, if_false]
theorem mayE : Tryz.prog.mayEnter = true := by
  obtain ⟨R, h⟩ := head_words
  exact gen_mayE _ R h lays bears doors
theorem liftsF : Tryz.prog.liftsFinal = false := by
  obtain ⟨R, h⟩ := head_words
  exact gen_liftsF _ R h
theorem makeF : Tryz.prog.make = some .cut := by
  obtain ⟨R, h⟩ := head_words
  exact gen_makeF _ R h
end
end Go.Proofs.YtebjiimlcnmfpaaGreat
