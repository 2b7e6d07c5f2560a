/-
  What chapter 8's reference computes: the keys, rising, each once (as this seat's print has it).
-/
import Derived.Test.YtebjiimlcnmfpaaGreatPrCartoucheref08Keys
import Derived.Test.YtebjiimlcnmfpaaGreatPrCartoucheref01Less
import Derived.Test.YtebjiimlcnmfpaaGreatB1
set_option linter.unusedVariables false
set_option linter.unusedSimpArgs false
namespace Go.Proofs.YtebjiimlcnmfpaaGreatPr
open Go.Proofs.YtebjiimlcnmfpaaGreat
open Go Go.RowKit YtebjiimlcnmfpaaGreatW.PrintWords
/-! ### keys -/
theorem bt_get (a : ByteArray) (i : Nat) (h : i < a.data.toList.length) : bt a (i : Int) = ((a.data.toList[i]).toNat : Int) := by
  unfold bt
  have h' : (i : Int).toNat < a.size := by simpa using h
  rw [dif_pos h']
  rfl
theorem less_l0 (a b : ByteArray) (ha : a.size ≤ 9223372036854775807) : ∀ (d i : Nat), i + d = a.data.toList.length → i ≤ b.data.toList.length → Evt (fun k => cartoucheref01_Less.l0 k a b (i : Int)) (decide (a.data.toList.drop i < b.data.toList.drop i)) := by
  have hsa : (a.size : Int) = (a.data.toList.length : Int) := by simp
  have hsb : (b.size : Int) = (b.data.toList.length : Int) := by simp
  have fin : ∀ i : Nat, Evt (fun k => cartoucheref01_Less.j1 k a b (i : Int) false) (decide ((a.data.toList.length : Int) < (b.data.toList.length : Int))) := fun i => Evt.now1 fun k => by
    simp only [cartoucheref01_Less.j1]
    rw [if_neg (by simp), hsa, hsb]
  intro d
  induction d with
  | zero =>
    intro i hi hb
    have e : decide (a.data.toList.drop i < b.data.toList.drop i) = decide ((a.data.toList.length : Int) < (b.data.toList.length : Int)) := by
      rw [List.drop_of_length_le (by omega)]
      by_cases q : i < b.data.toList.length
      · rw [List.drop_eq_getElem_cons q]
        rw [decide_eq_true (by omega : (a.data.toList.length : Int) < (b.data.toList.length : Int))]
        exact decide_eq_true (List.nil_lt_cons _ _)
      · rw [List.drop_of_length_le (by omega), decide_eq_false (by omega : ¬ (a.data.toList.length : Int) < (b.data.toList.length : Int))]
        exact decide_eq_false (List.not_lt_nil _)
    rw [e]
    refine Evt.step (fun k => ?_) (fin i)
    simp only [cartoucheref01_Less.l0]
    rw [if_neg (by omega)]
  | succ d ih =>
    intro i hi hb
    by_cases q : i < b.data.toList.length
    · have hia : i < a.data.toList.length := by omega
      have j1 : Evt (fun k => cartoucheref01_Less.j1 k a b (i : Int) true) (decide (a.data.toList.drop i < b.data.toList.drop i)) := by
        rw [List.drop_eq_getElem_cons hia, List.drop_eq_getElem_cons q]
        by_cases e : a.data.toList[i] = b.data.toList[i]
        · have e2 : decide (a.data.toList[i] :: a.data.toList.drop (i + 1) < b.data.toList[i] :: b.data.toList.drop (i + 1)) = decide (a.data.toList.drop (i + 1) < b.data.toList.drop (i + 1)) := by
            rw [e]; simp [List.cons_lt_cons_iff]
          rw [e2]
          refine Evt.step (fun k => ?_) (ih (i + 1) (by omega) (by omega))
          simp only [cartoucheref01_Less.j1]
          rw [if_pos (by trivial), if_pos (by omega), if_pos (by omega), if_pos (by omega), bt_get a i hia, bt_get b i q, e, if_pos (by trivial), wrap_id (by omega) (by omega)]
          rfl
        · have e2 : decide (a.data.toList[i] :: a.data.toList.drop (i + 1) < b.data.toList[i] :: b.data.toList.drop (i + 1)) = decide (((a.data.toList[i]).toNat : Int) < ((b.data.toList[i]).toNat : Int)) := by
            refine decide_eq_decide.2 ?_
            rw [List.cons_lt_cons_iff, UInt8.lt_iff_toNat_lt]
            constructor
            · rintro (h | h)
              · omega
              · exact absurd h.1 e
            · intro h; exact .inl (by omega)
          rw [e2]
          refine Evt.now1 fun k => ?_
          simp only [cartoucheref01_Less.j1]
          rw [if_pos (by trivial), if_pos (by omega), if_pos (by omega), if_pos (by omega), bt_get a i hia, bt_get b i q, if_neg (fun h => e (UInt8.toNat_inj.1 (by omega)))]
      refine Evt.step (fun k => ?_) j1
      simp only [cartoucheref01_Less.l0]
      rw [if_pos (by omega), decide_eq_true (by omega : (i : Int) < (b.size : Int))]
    · have e : decide (a.data.toList.drop i < b.data.toList.drop i) = decide ((a.data.toList.length : Int) < (b.data.toList.length : Int)) := by
        rw [List.drop_of_length_le (show b.data.toList.length ≤ i by omega), decide_eq_false (by omega : ¬ (a.data.toList.length : Int) < (b.data.toList.length : Int))]
        exact decide_eq_false (List.not_lt_nil _)
      rw [e]
      refine Evt.step (fun k => ?_) (fin i)
      simp only [cartoucheref01_Less.l0]
      rw [if_pos (by omega), decide_eq_false (by omega : ¬ (i : Int) < (b.size : Int))]
theorem less_is (a b : ByteArray) (ha : a.size ≤ 9223372036854775807) : Evt (fun k => cartoucheref01_Less.f k a b) (decide (a.data.toList < b.data.toList)) :=
  less_l0 a b ha a.data.toList.length 0 (by omega) (by omega)

theorem insKey_pass (x : List UInt8) : ∀ (R : List (List UInt8)) (j : Nat), (∀ q, ∀ h : q < R.length, q < j → R[q] < x) → insKey x R = R.take j ++ insKey x (R.drop j)
  | R, 0, _ => by simp
  | [], j + 1, _ => by simp
  | y :: r, j + 1, h => by
    have hy := h 0 (by simp) (by omega)
    rw [List.getElem_cons_zero] at hy
    rw [List.take_succ_cons, List.drop_succ_cons, List.cons_append, ← insKey_pass x r j (fun q hq hj => by have := h (q + 1) (by simp; omega) (by omega); simpa using this)]
    show (if x < y then _ else if x = y then _ else _) = _
    rw [if_neg (fun z => List.lt_irrefl _ (List.lt_trans z hy)), if_neg (fun z => by subst z; exact List.lt_irrefl _ hy)]

section
variable (xs : List S50) (hn : xs.length ≤ 300)
include hn
theorem rkeys_l1 (i : Nat) (hi : i < xs.length) (R : List (List UInt8)) (hR : R.length ≤ i) (hRs : ∀ y ∈ R, y.length ≤ 9223372036854775807) (r : List ByteArray)
    (next : Evt (fun k => cartoucheref08_Keys.l0 k xs ((insKey (nth (evs xs) i).key.data.toList R).map toBA) ((i + 1 : Nat) : Int)) r) :
    ∀ (d j : Nat), j + d = R.length → (∀ q, ∀ h : q < R.length, q < j → R[q] < (nth (evs xs) i).key.data.toList) → Evt (fun k => cartoucheref08_Keys.l1 k xs (R.map toBA) (i : Int) (j : Int)) r := by
  have hlen := evs_len xs
  intro d
  induction d with
  | zero =>
    intro j hj hlt
    have e := insKey_pass (nth (evs xs) i).key.data.toList R j hlt
    rw [List.drop_of_length_le (by omega), show insKey (nth (evs xs) i).key.data.toList [] = [(nth (evs xs) i).key.data.toList] from rfl] at e
    rw [e, List.map_append] at next
    refine Evt.step (f := fun k => cartoucheref08_Keys.j3 k xs (R.map toBA) (i : Int) (j : Int) false) (fun k => by
      simp only [cartoucheref08_Keys.l1]
      rw [if_neg (by simp; omega)]) ?_
    refine Evt.step (f := fun k => cartoucheref08_Keys.j4 k xs (R.map toBA) (i : Int) (j : Int) false) (fun k => by
      simp only [cartoucheref08_Keys.j3]
      rw [if_neg (by simp), if_neg (by simp; omega)]) ?_
    refine Evt.step (fun k => ?_) next
    simp only [cartoucheref08_Keys.j4]
    rw [if_neg (by simp)]
    simp only [Option.bind_some, List.nil_append, List.length_nil, Nat.zero_add, Int.toNat_natCast]
    have hl : ((R.map toBA).take j).length ≤ 300 := by simp; omega
    rw [if_pos (by omega), if_pos (by simp; omega), if_pos (by omega), if_pos (by omega), if_pos (by omega), if_pos (by omega), if_pos (by simp; omega), wrap_succ (n := xs.length) (by omega) (by omega), rd_f2, List.drop_of_length_le (by simp; omega), List.append_nil, List.map_take]
    rfl
  | succ d ih =>
    intro j hj hlt
    have hjR : j < R.length := by omega
    have hrd : rdOf ByteArray.empty (R.map toBA) (j : Int) = toBA R[j] := by
      unfold rdOf
      rw [List.getD_eq_getElem?_getD, Int.toNat_natCast, List.getElem?_map, List.getElem?_eq_getElem hjR]
      rfl
    have hless := less_is (toBA R[j]) (nth (evs xs) i).key (hRs _ (List.getElem_mem hjR))
    rw [toBA_data] at hless
    have e3 : ((toBA R[j]).toList = (nth (evs xs) i).key.toList) ↔ (R[j] = (nth (evs xs) i).key.data.toList) := by
      rw [ba_list]
      constructor
      · intro h; rw [← h]; rfl
      · intro h; rw [h]; rfl
    have hl : ((R.map toBA).take j).length ≤ 300 := by simp; omega
    refine Evt.step (f := fun k => (cartoucheref01_Less.f k (toBA R[j]) (nth (evs xs) i).key).bind fun t => cartoucheref08_Keys.j3 k xs (R.map toBA) (i : Int) (j : Int) t) (fun k => by
      simp only [cartoucheref08_Keys.l1]
      rw [if_pos (by simp; omega), if_pos (by omega), if_pos (by omega), if_pos (by omega), hrd, rd_f2, Int.toNat_natCast]) (Evt.bind' (fun k => rfl) hless ?_)
    have e := insKey_pass (nth (evs xs) i).key.data.toList R j hlt
    rw [List.drop_eq_getElem_cons hjR] at e
    by_cases c : R[j] < (nth (evs xs) i).key.data.toList
    · refine Evt.step (f := fun k => cartoucheref08_Keys.l1 k xs (R.map toBA) (i : Int) ((j + 1 : Nat) : Int)) (fun k => by
        simp only [cartoucheref08_Keys.j3]
        rw [if_pos (decide_eq_true c), wrap_succ (n := R.length) (by omega) (by omega)]) (ih (j + 1) (by omega) (fun q h hq => ?_))
      by_cases e2 : q = j
      · subst e2; exact c
      · exact hlt q h (by omega)
    · refine Evt.step (f := fun k => cartoucheref08_Keys.j4 k xs (R.map toBA) (i : Int) (j : Int) ((toBA R[j]).toList == (nth (evs xs) i).key.toList)) (fun k => by
        simp only [cartoucheref08_Keys.j3]
        rw [if_neg (by simpa using c), if_pos (by simp; omega), if_pos (by omega), if_pos (by omega), if_pos (by omega), hrd, rd_f2, Int.toNat_natCast]) ?_
      by_cases c2 : R[j] = (nth (evs xs) i).key.data.toList
      · rw [show insKey (nth (evs xs) i).key.data.toList (R[j] :: R.drop (j + 1)) = R[j] :: R.drop (j + 1) by
          show (if _ < _ then _ else if _ = _ then _ else _) = _
          rw [if_neg (by rw [c2]; exact List.lt_irrefl _), if_pos c2.symm], ← List.drop_eq_getElem_cons hjR, List.take_append_drop] at e
        rw [e] at next
        refine Evt.step (fun k => ?_) next
        simp only [cartoucheref08_Keys.j4]
        rw [if_pos (by simpa using e3.2 c2), wrap_succ (n := xs.length) (by omega) (by omega)]
      · rw [show insKey (nth (evs xs) i).key.data.toList (R[j] :: R.drop (j + 1)) = (nth (evs xs) i).key.data.toList :: R[j] :: R.drop (j + 1) by
          show (if _ < _ then _ else if _ = _ then _ else _) = _
          rw [if_pos (lt_tri c c2)], ← List.drop_eq_getElem_cons hjR] at e
        rw [e] at next
        simp only [List.map_append, List.map_cons, List.map_take, List.map_drop, toBA_self] at next
        refine Evt.step (fun k => ?_) next
        simp only [cartoucheref08_Keys.j4]
        rw [if_neg (by simpa using fun h => c2 (e3.1 h))]
        simp only [Option.bind_some, List.nil_append, List.length_nil, Nat.zero_add, Int.toNat_natCast]
        rw [if_pos (by omega), if_pos (show (j : Int) ≤ ((R.map toBA).length : Int) by simp; omega), if_pos (by omega), if_pos (by omega), if_pos (by omega), if_pos (by omega), if_pos (by simp; omega), wrap_succ (n := xs.length) (by omega) (by omega), rd_f2, Int.toNat_natCast]
        simp [List.append_assoc]

theorem rkeys_l0 (hk : ∀ y ∈ xs, y.f2.size ≤ 9223372036854775807) : ∀ (d i : Nat) (R : List (List UInt8)), i + d = xs.length → R.length ≤ i → (∀ y ∈ R, y.length ≤ 9223372036854775807) → keysFold R (Go.Proofs.YtebjiimlcnmfpaaGreat.keyBytes ((evs xs).drop i)) = keysSpec (evs xs) → Evt (fun k => cartoucheref08_Keys.l0 k xs (R.map toBA) (i : Int)) ((keysSpec (evs xs)).map toBA)
  | 0, i, R, hi, hR, hRs, h => Evt.now1 fun k => by
    simp only [cartoucheref08_Keys.l0]
    rw [if_neg (by omega), ← h, List.drop_of_length_le (by rw [evs_len]; omega)]
    rfl
  | d + 1, i, R, hi, hR, hRs, h => by
    have hlen := evs_len xs
    have hi' : i < (evs xs).length := by omega
    rw [List.drop_eq_getElem_cons hi', ← nth_lt hi'] at h
    have hkey : (nth (evs xs) i).key.data.toList.length ≤ 9223372036854775807 := by
      have h1 : nth (evs xs) i ∈ evs xs := by rw [nth_lt hi']; exact List.getElem_mem _
      obtain ⟨y, hy, he⟩ := List.mem_map.1 h1
      have := hk y hy
      rw [← he]
      simpa [toEv] using this
    by_cases q : keyed (nth (evs xs) i) = true
    · have h' : keysFold (insKey (nth (evs xs) i).key.data.toList R) (Go.Proofs.YtebjiimlcnmfpaaGreat.keyBytes ((evs xs).drop (i + 1))) = keysSpec (evs xs) := by
        rw [← h]; unfold Go.Proofs.YtebjiimlcnmfpaaGreat.keyBytes; rw [List.filter_cons, if_pos q]; rfl
      have hil : ∀ (x : List UInt8) (R : List (List UInt8)), (insKey x R).length ≤ R.length + 1 := fun x R => by
        induction R with
        | nil => simp [insKey]
        | cons y r ih =>
          unfold insKey
          split
          · simp
          · split
            · simp
            · simp; omega
      have ih := rkeys_l0 hk d (i + 1) (insKey (nth (evs xs) i).key.data.toList R) (by omega) (by have := hil (nth (evs xs) i).key.data.toList R; omega) (fun y hy => by
        rcases (mem_insKey _ _ _).1 hy with rfl | hy
        · exact hkey
        · exact hRs y hy) h'
      have l1 := rkeys_l1 xs hn i (by omega) R hR hRs _ ih R.length 0 (by omega) (fun q h hq => by omega)
      have j1 : Evt (fun k => cartoucheref08_Keys.j1 k xs (R.map toBA) (i : Int) false) ((keysSpec (evs xs)).map toBA) := by
        refine Evt.step (fun k => ?_) l1
        simp only [cartoucheref08_Keys.j1]
        rw [if_neg (by simp)]
        rfl
      refine Evt.step (fun k => ?_) j1
      simp only [cartoucheref08_Keys.l0]
      rw [if_pos (by omega), if_pos (by omega), rd_f0]
      simp only [Int.toNat_natCast]
      by_cases q2 : (nth (evs xs) i).kind = 2
      · rw [if_pos q2]
      · have q3 : (nth (evs xs) i).kind = 3 := by
          unfold keyed at q; simp at q; omega
        rw [if_neg q2, q3]
        rfl
    · have h' : keysFold R (Go.Proofs.YtebjiimlcnmfpaaGreat.keyBytes ((evs xs).drop (i + 1))) = keysSpec (evs xs) := by
        rw [← h]; unfold Go.Proofs.YtebjiimlcnmfpaaGreat.keyBytes; rw [List.filter_cons, if_neg q]
      have ih := rkeys_l0 hk d (i + 1) R (by omega) (by omega) hRs h'
      have j1 : Evt (fun k => cartoucheref08_Keys.j1 k xs (R.map toBA) (i : Int) true) ((keysSpec (evs xs)).map toBA) := by
        refine Evt.step (fun k => ?_) ih
        simp only [cartoucheref08_Keys.j1]
        rw [if_pos (by trivial), wrap_succ (n := xs.length) (by omega) (by omega)]
      refine Evt.step (fun k => ?_) j1
      simp only [cartoucheref08_Keys.l0]
      rw [if_pos (by omega), if_pos (by omega), rd_f0]
      simp only [Int.toNat_natCast]
      unfold keyed at q
      simp at q
      rw [if_neg q.1, show ((nth (evs xs) i).kind != 3) = true by simpa using q.2]
theorem rkeys (hk : ∀ y ∈ xs, y.f2.size ≤ 9223372036854775807) : Evt (fun k => cartoucheref08_Keys.f k xs) ((keysSpec (evs xs)).map toBA) :=
  rkeys_l0 xs hn hk xs.length 0 [] (by omega) (by simp) (fun y hy => by cases hy) rfl
end
end Go.Proofs.YtebjiimlcnmfpaaGreatPr
