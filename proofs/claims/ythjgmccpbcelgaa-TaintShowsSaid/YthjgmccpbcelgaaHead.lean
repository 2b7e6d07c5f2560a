/-
  The dump's head, read once: what of it the rows ask.
-/
import Derived.Test.YthjgmccpbcelgaaProg
import Derived.Test.YthjgmccpbcelgaaRows
import Derived.ProofKit
namespace Go.Proofs.Ythjgmccpbcelgaa
open Go
set_option maxRecDepth 100000
def headCodes : List Nat := [104, 97, 114, 110, 101, 115, 115, 32, 97, 55, 48, 48, 100, 102, 99, 52, 54, 48, 48, 52, 102, 55, 56, 52, 100, 102, 98, 48, 97, 55, 97, 97, 54, 49, 55, 49, 99, 97, 57, 52, 54, 53, 102, 52, 57, 57, 49, 53, 55, 102, 100, 55, 49, 102, 53, 99, 48, 56, 56, 98, 99, 48, 100, 49, 97, 98, 51, 49, 101, 49, 98, 54, 32, 99, 117, 116, 32, 97, 116, 32, 99, 97, 114, 116, 111, 117, 99, 104, 101, 47, 99, 97, 114, 116, 111, 117, 99, 104, 101, 108, 97, 119, 48, 57, 46, 84, 97, 105, 110, 116, 83, 104, 111, 119, 115, 32, 99, 97, 114, 116, 111, 117, 99, 104, 101, 47, 99, 97, 114, 116, 111, 117, 99, 104, 101, 108, 97, 119, 48, 57, 46, 84, 97, 105, 110, 116, 79, 114, 100, 101, 114, 32, 99, 97, 114, 116, 111, 117, 99, 104, 101, 47, 99, 97, 114, 116, 111, 117, 99, 104, 101, 108, 97, 119, 48, 57, 46, 84, 97, 105, 110, 116, 84, 101, 108, 108, 115, 32, 99, 97, 114, 116, 111, 117, 99, 104, 101, 47, 99, 97, 114, 116, 111, 117, 99, 104, 101, 108, 97, 119, 48, 57, 46, 84, 97, 105, 110, 116, 67, 108, 101, 97, 110, 32, 99, 97, 114, 116, 111, 117, 99, 104, 101, 47, 99, 97, 114, 116, 111, 117, 99, 104, 101, 108, 97, 119, 48, 57, 46, 84, 97, 105, 110, 116, 79, 119, 110, 32, 99, 97, 114, 116, 111, 117, 99, 104, 101, 47, 99, 97, 114, 116, 111, 117, 99, 104, 101, 108, 97, 119, 48, 57, 46, 84, 97, 105, 110, 116, 65, 98, 111, 114, 116, 115, 32, 99, 97, 114, 116, 111, 117, 99, 104, 101, 47, 99, 97, 114, 116, 111, 117, 99, 104, 101, 108, 97, 119, 49, 49, 46, 82, 105, 110, 103, 77, 97, 100, 101, 32, 99, 97, 114, 116, 111, 117, 99, 104, 101, 47, 99, 97, 114, 116, 111, 117, 99, 104, 101, 108, 97, 119, 49, 49, 46, 82, 105, 110, 103, 70, 105, 110, 100, 115, 32, 99, 97, 114, 116, 111, 117, 99, 104, 101, 47, 99, 97, 114, 116, 111, 117, 99, 104, 101, 108, 97, 119, 49, 49, 46, 82, 105, 110, 103, 84, 117, 114, 110, 115, 32, 99, 97, 114, 116, 111, 117, 99, 104, 101, 47, 99, 97, 114, 116, 111, 117, 99, 104, 101, 108, 97, 119, 49, 49, 46, 82, 105, 110, 103, 83, 104, 111, 114, 116, 32, 99, 97, 114, 116, 111, 117, 99, 104, 101, 47, 99, 97, 114, 116, 111, 117, 99, 104, 101, 108, 97, 119, 49, 49, 46, 82, 105, 110, 103, 79, 114, 100, 101, 114, 115, 32, 99, 97, 114, 116, 111, 117, 99, 104, 101, 47, 99, 97, 114, 116, 111, 117, 99, 104, 101, 108, 97, 119, 49, 49, 46, 82, 105, 110, 103, 75, 101, 101, 112, 115, 32, 99, 97, 114, 116, 111, 117, 99, 104, 101, 47, 99, 97, 114, 116, 111, 117, 99, 104, 101, 108, 97, 119, 49, 49, 46, 82, 105, 110, 103, 69, 105, 116, 104, 101, 114, 32, 99, 97, 114, 116, 111, 117, 99, 104, 101, 47, 99, 97, 114, 116, 111, 117, 99, 104, 101, 108, 97, 119, 48, 56, 46, 72, 105, 115, 116, 111, 114, 121, 70, 111, 114, 109, 115, 32, 99, 97, 114, 116, 111, 117, 99, 104, 101, 47, 99, 97, 114, 116, 111, 117, 99, 104, 101, 108, 97, 119, 48, 56, 46, 72, 105, 115, 116, 111, 114, 121, 87, 114, 105, 116, 101, 115, 32, 99, 97, 114, 116, 111, 117, 99, 104, 101, 47, 99, 97, 114, 116, 111, 117, 99, 104, 101, 108, 97, 119, 48, 56, 46, 72, 105, 115, 116, 111, 114, 121, 80, 114, 101, 102, 105, 120, 32, 99, 97, 114, 116, 111, 117, 99, 104, 101, 47, 99, 97, 114, 116, 111, 117, 99, 104, 101, 108, 97, 119, 48, 56, 46, 72, 105, 115, 116, 111, 114, 121, 76, 97, 115, 116, 32, 99, 97, 114, 116, 111, 117, 99, 104, 101, 47, 99, 97, 114, 116, 111, 117, 99, 104, 101, 108, 97, 119, 48, 56, 46, 72, 105, 115, 116, 111, 114, 121, 79, 110, 99, 101, 32, 99, 97, 114, 116, 111, 117, 99, 104, 101, 47, 99, 97, 114, 116, 111, 117, 99, 104, 101, 108, 97, 119, 48, 56, 46, 72, 105, 115, 116, 111, 114, 121, 86, 101, 114, 115, 105, 111, 110, 115, 32, 99, 97, 114, 116, 111, 117, 99, 104, 101, 47, 99, 97, 114, 116, 111, 117, 99, 104, 101, 108, 97, 119, 48, 56, 46, 72, 105, 115, 116, 111, 114, 121, 71, 114, 111, 119, 115, 32, 99, 97, 114, 116, 111, 117, 99, 104, 101, 47, 99, 97, 114, 116, 111, 117, 99, 104, 101, 108, 97, 119, 49, 48, 46, 69, 100, 103, 101, 115, 65, 112, 97, 114, 116, 32, 99, 97, 114, 116, 111, 117, 99, 104, 101, 47, 99, 97, 114, 116, 111, 117, 99, 104, 101, 108, 97, 119, 49, 48, 46, 69, 100, 103, 101, 115, 82, 101, 97, 100, 115, 32, 99, 97, 114, 116, 111, 117, 99, 104, 101, 47, 99, 97, 114, 116, 111, 117, 99, 104, 101, 108, 97, 119, 48, 56, 46, 72, 105, 115, 116, 111, 114, 121, 76, 105, 118, 101, 115, 32, 99, 97, 114, 116, 111, 117, 99, 104, 101, 47, 99, 97, 114, 116, 111, 117, 99, 104, 101, 108, 97, 119, 49, 48, 46, 69, 100, 103, 101, 115, 83, 116, 101, 112, 32, 99, 97, 114, 116, 111, 117, 99, 104, 101, 47, 99, 97, 114, 116, 111, 117, 99, 104, 101, 108, 97, 119, 49, 48, 46, 69, 100, 103, 101, 115, 83, 116, 101, 112, 115, 32, 99, 97, 114, 116, 111, 117, 99, 104, 101, 47, 99, 97, 114, 116, 111, 117, 99, 104, 101, 108, 97, 119, 49, 48, 46, 69, 100, 103, 101, 115, 72, 111, 108, 100, 32, 99, 97, 114, 116, 111, 117, 99, 104, 101, 47, 99, 97, 114, 116, 111, 117, 99, 104, 101, 108, 97, 119, 49, 48, 46, 69, 100, 103, 101, 115, 70, 111, 108, 108, 111, 119]
theorem headList : Try.prog.initOrder.toList = headCodes.map Char.ofNat := by
  have h : Try.prog.initOrder = String.ofList (headCodes.map Char.ofNat) := by kernel_rfl
  rw [h, String.toList_ofList]

theorem wordsSigns_ne (l : List Char) : wordsSigns l ≠ [] := by
  fun_induction wordsSigns l <;> simp_all

theorem wordsSigns_word : ∀ (w r : List Char), (w.all fun c => c.toNat != 32) = true → wordsSigns (w ++ Char.ofNat 32 :: r) = w :: wordsSigns r
  | [], r, _ => rfl
  | c :: w, r, h => by
    simp only [List.all_cons, Bool.and_eq_true, bne_iff_ne, ne_eq] at h
    have ih := wordsSigns_word w r h.2
    show wordsSigns (c :: (w ++ Char.ofNat 32 :: r)) = _
    rw [wordsSigns.eq_3 _ _ (fun he => h.1 (by rw [he]; rfl)), ih]

theorem head_words : ∃ R, behindMainWord (wordsSigns Try.prog.initOrder.toList) = "cut".toList :: R := by
  rw [headList]
  have e : headCodes.map Char.ofNat = "harness".toList ++ Char.ofNat 32 :: (((headCodes.drop 8).take 64).map Char.ofNat ++ Char.ofNat 32 :: ("cut".toList ++ Char.ofNat 32 :: (headCodes.drop 77).map Char.ofNat)) := by kernel_rfl
  rw [e, wordsSigns_word _ _ (by decide +kernel), wordsSigns_word _ _ (by decide +kernel), wordsSigns_word _ _ (by decide +kernel)]
  refine ⟨wordsSigns ((headCodes.drop 77).map Char.ofNat), ?_⟩
  have hc : (("harness".toList == "harness".toList || "harness".toList == "ownmain".toList) && isSumSigns (((headCodes.drop 8).take 64).map Char.ofNat)) = true := by decide +kernel
  simp only [behindMainWord, hc, if_true]

theorem lays : Try.prog.laysLater = false := by kernel_rfl
theorem bears : Try.prog.bearsReflect = false := by kernel_rfl
theorem doors : Try.prog.doorFits [] = true := by kernel_rfl
theorem strip (R : List (List Char)) : stripLifts liftWords ("cut".toList :: R) = ([], "cut".toList :: R) := by
  have h : ∀ os : List String, (∀ o ∈ os, ("cut".toList == o.toList) = false) → stripLifts os ("cut".toList :: R) = ([], "cut".toList :: R) := by
    intro os
    induction os with
    | nil => intro _; rfl
    | cons o os ih =>
      intro h
      unfold stripLifts
      rw [if_neg (by rw [h o (by simp)]; decide)]
      exact ih fun o ho => h o (by simp [ho])
  exact h liftWords (by decide +kernel)
theorem e_gc : ("cut".toList == "gc".toList) = false := by decide +kernel
theorem e_spec : ("cut".toList == "spec".toList) = false := by decide +kernel
theorem e_carried : ("cut".toList == "carried".toList) = false := by decide +kernel
theorem e_carried2 : (some "cut".toList == some "carried".toList) = false := by decide +kernel
theorem gen_lifts0 (P : Program) (R : List (List Char)) (h : behindMainWord (wordsSigns P.initOrder.toList) = "cut".toList :: R) : P.headLifts = [] := by
  simp only [Program.headLifts, h, strip, List.head?_cons, beq_self_eq_true, if_true]
theorem gen_mayE (P : Program) (R : List (List Char)) (h : behindMainWord (wordsSigns P.initOrder.toList) = "cut".toList :: R) (lays : P.laysLater = false) (bears : P.bearsReflect = false) (doors : P.doorFits [] = true) : P.mayEnter = true := by
  simp only [Program.mayEnter, h, strip, lays, bears, doors, e_gc, e_spec, e_carried, List.head?_cons, beq_self_eq_true, List.contains_nil, Bool.false_or, Bool.or_self, Bool.false_and, Bool.true_and, Bool.not_false, Bool.and_self, Bool.or_true]
theorem gen_liftsF (P : Program) (R : List (List Char)) (h : behindMainWord (wordsSigns P.initOrder.toList) = "cut".toList :: R) : P.liftsFinal = false := by
  simp only [Program.liftsFinal, h, gen_lifts0 P R h, List.head?_cons, e_carried2, Bool.false_and, List.contains_nil, Bool.or_self]
theorem gen_makeF (P : Program) (R : List (List Char)) (h : behindMainWord (wordsSigns P.initOrder.toList) = "cut".toList :: R) : P.make = some .cut := by
  simp only [Program.make, h, e_gc, e_spec, Bool.or_self, beq_self_eq_true, Bool.true_or, if_true, Bool.false_eq_true, if_false]
theorem mayE : Try.prog.mayEnter = true := by
  obtain ⟨R, h⟩ := head_words
  exact gen_mayE _ R h lays bears doors
theorem liftsF : Try.prog.liftsFinal = false := by
  obtain ⟨R, h⟩ := head_words
  exact gen_liftsF _ R h
theorem makeF : Try.prog.make = some .cut := by
  obtain ⟨R, h⟩ := head_words
  exact gen_makeF _ R h
end Go.Proofs.Ythjgmccpbcelgaa
