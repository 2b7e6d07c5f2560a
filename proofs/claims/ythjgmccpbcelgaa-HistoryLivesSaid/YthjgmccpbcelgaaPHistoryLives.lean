/-
  The plain law of HistoryLives: a history's transactions, one of them, and all keys, the program and the document tell alike.
-/
import Derived.Test.YthjgmccpbcelgaaPr58
import Derived.Test.YthjgmccpbcelgaaS08
import Derived.Test.YthjgmccpbcelgaaC1
set_option linter.unusedVariables false
set_option linter.unusedSimpArgs false
namespace Go.Proofs.YthjgmccpbcelgaaPr
open Go Go.RowKit Go.Proofs.Ythjgmccpbcelgaa YthjgmccpbcelgaaW.PrintWords

/-! ### lives -/
theorem rlives_l0 (xs : List S31) (hn : xs.length ≤ 300) : ∀ (d i : Nat) (pre : List Life), i + d = xs.length → pre.length ≤ i → pre ++ livesFrom (evs xs) d i = lives (evs xs) → Evt (fun k => cartoucheref08_Lives.l0 k xs (pre.map ofLife) (i : Int)) ((lives (evs xs)).map ofLife)
  | 0, i, pre, hi, hp, h => Evt.now1 fun k => by
    simp only [cartoucheref08_Lives.l0]
    rw [if_neg (by omega), ← h]
    simp [livesFrom]
  | d + 1, i, pre, hi, hp, h => by
    have hlen := evs_len xs
    have hf : cartoucheref08_first.f xs (nth (evs xs) i).txn (i : Int) = some (firstOf ((evs xs).take i) (nth (evs xs) i).txn) := by
      unfold cartoucheref08_first.f
      rw [if_pos ⟨by omega, by omega, by omega⟩, Int.toNat_natCast]
    have hs : livesFrom (evs xs) (d + 1) i = if firstOf ((evs xs).take i) (nth (evs xs) i).txn < 0 then lifeOf (evs xs) i :: livesFrom (evs xs) d (i + 1) else livesFrom (evs xs) d (i + 1) := rfl
    rw [hs] at h
    by_cases q : firstOf ((evs xs).take i) (nth (evs xs) i).txn < 0
    · rw [if_pos q] at h
      have ih := rlives_l0 xs hn d (i + 1) (pre ++ [lifeOf (evs xs) i]) (by omega) (by simp; omega) (by rw [← h]; simp)
      have hfi := lifeOf_find (evs xs) _ (lives_first (by omega) q)
      refine Evt.step (fun k => ?_) ih
      simp only [cartoucheref08_Lives.l0]
      unfold cartoucheref08_Find.f
      rw [if_pos (by omega), if_pos (by omega), rd_f1]
      simp only [Int.toNat_natCast]
      rw [hf]
      simp only [Option.bind_some]
      rw [if_pos q, if_pos (by omega), hfi]
      simp only [Option.bind_some]
      rw [if_pos (by simp; omega), wrap_succ (n := xs.length) (by omega) (by omega), List.map_append]
      rfl
    · rw [if_neg q] at h
      refine Evt.step (fun k => ?_) (rlives_l0 xs hn d (i + 1) pre (by omega) (by omega) h)
      simp only [cartoucheref08_Lives.l0]
      rw [if_pos (by omega), if_pos (by omega), rd_f1]
      simp only [Int.toNat_natCast]
      rw [hf]
      simp only [Option.bind_some]
      rw [if_neg q, wrap_succ (n := xs.length) (by omega) (by omega)]
theorem rlives (xs : List S31) (hn : xs.length ≤ 300) : Evt (fun k => cartoucheref08_Lives.f k xs) ((lives (evs xs)).map ofLife) := by
  refine Evt.congr (fun k => ?_) (rlives_l0 xs hn xs.length 0 [] (by omega) (by simp) (by rw [← evs_len xs]; rfl))
  unfold cartoucheref08_Lives.f
  rfl
theorem sameLives_l0 (xs : List S33) (hn : xs.length ≤ 140737488351232) : ∀ (d i : Nat), i + d = xs.length → Evt (fun k => cartoucheref08_SameLives.l0 k xs xs (i : Int)) true
  | 0, i, hi => Evt.now1 fun k => by
    simp only [cartoucheref08_SameLives.l0]
    rw [if_neg (by omega)]
  | d + 1, i, hi => by
    refine Evt.step (fun k => ?_) (sameLives_l0 xs hn d (i + 1) (by omega))
    simp only [cartoucheref08_SameLives.l0]
    rw [if_pos (by omega), if_pos (by omega), if_pos (by omega), if_neg (by simp), wrap_succ (n := xs.length) (by omega) hn]
theorem sameLives_self (xs : List S33) (hn : xs.length ≤ 140737488351232) : Evt (fun k => cartoucheref08_SameLives.f k xs xs) true := by
  refine Evt.congr (fun k => ?_) (sameLives_l0 xs hn xs.length 0 (by omega))
  unfold cartoucheref08_SameLives.f
  rw [if_pos (by trivial)]
  rfl

/-! ### keys -/
theorem bt_get (a : ByteArray) (i : Nat) (h : i < a.data.toList.length) : bt a (i : Int) = ((a.data.toList[i]).toNat : Int) := by
  unfold bt
  have h' : (i : Int).toNat < a.size := by simpa using h
  rw [dif_pos h']
  rfl
theorem less_l0 (a b : ByteArray) (ha : a.size ≤ 9223372036854775807) : ∀ (d i : Nat), i + d = a.data.toList.length → i ≤ b.data.toList.length → Evt (fun k => cartoucheref01_Less.l0 k a b (i : Int)) (decide (a.data.toList.drop i < b.data.toList.drop i)) := by
  have hsa : (a.size : Int) = (a.data.toList.length : Int) := by simp
  have hsb : (b.size : Int) = (b.data.toList.length : Int) := by simp
  have fin : ∀ i : Nat, Evt (fun k => cartoucheref01_Less.j1 k a b (i : Int) false) (decide ((a.data.toList.length : Int) < (b.data.toList.length : Int))) := fun i => Evt.now1 fun k => by
    simp only [cartoucheref01_Less.j1]
    rw [if_neg (by simp), hsa, hsb]
  intro d
  induction d with
  | zero =>
    intro i hi hb
    have e : decide (a.data.toList.drop i < b.data.toList.drop i) = decide ((a.data.toList.length : Int) < (b.data.toList.length : Int)) := by
      rw [List.drop_of_length_le (by omega)]
      by_cases q : i < b.data.toList.length
      · rw [List.drop_eq_getElem_cons q]
        rw [decide_eq_true (by omega : (a.data.toList.length : Int) < (b.data.toList.length : Int))]
        exact decide_eq_true (List.nil_lt_cons _ _)
      · rw [List.drop_of_length_le (by omega), decide_eq_false (by omega : ¬ (a.data.toList.length : Int) < (b.data.toList.length : Int))]
        exact decide_eq_false (List.not_lt_nil _)
    rw [e]
    refine Evt.step (fun k => ?_) (fin i)
    simp only [cartoucheref01_Less.l0]
    rw [if_neg (by omega)]
  | succ d ih =>
    intro i hi hb
    by_cases q : i < b.data.toList.length
    · have hia : i < a.data.toList.length := by omega
      have j1 : Evt (fun k => cartoucheref01_Less.j1 k a b (i : Int) true) (decide (a.data.toList.drop i < b.data.toList.drop i)) := by
        rw [List.drop_eq_getElem_cons hia, List.drop_eq_getElem_cons q]
        by_cases e : a.data.toList[i] = b.data.toList[i]
        · have e2 : decide (a.data.toList[i] :: a.data.toList.drop (i + 1) < b.data.toList[i] :: b.data.toList.drop (i + 1)) = decide (a.data.toList.drop (i + 1) < b.data.toList.drop (i + 1)) := by
            rw [e]; simp [List.cons_lt_cons_iff]
          rw [e2]
          refine Evt.step (fun k => ?_) (ih (i + 1) (by omega) (by omega))
          simp only [cartoucheref01_Less.j1]
          rw [if_pos (by trivial), if_pos (by omega), if_pos (by omega), if_pos (by omega), bt_get a i hia, bt_get b i q, e, if_pos (by trivial), wrap_id (by omega) (by omega)]
          rfl
        · have e2 : decide (a.data.toList[i] :: a.data.toList.drop (i + 1) < b.data.toList[i] :: b.data.toList.drop (i + 1)) = decide (((a.data.toList[i]).toNat : Int) < ((b.data.toList[i]).toNat : Int)) := by
            refine decide_eq_decide.2 ?_
            rw [List.cons_lt_cons_iff, UInt8.lt_iff_toNat_lt]
            constructor
            · rintro (h | h)
              · omega
              · exact absurd h.1 e
            · intro h; exact .inl (by omega)
          rw [e2]
          refine Evt.now1 fun k => ?_
          simp only [cartoucheref01_Less.j1]
          rw [if_pos (by trivial), if_pos (by omega), if_pos (by omega), if_pos (by omega), bt_get a i hia, bt_get b i q, if_neg (fun h => e (UInt8.toNat_inj.1 (by omega)))]
      refine Evt.step (fun k => ?_) j1
      simp only [cartoucheref01_Less.l0]
      rw [if_pos (by omega), decide_eq_true (by omega : (i : Int) < (b.size : Int))]
    · have e : decide (a.data.toList.drop i < b.data.toList.drop i) = decide ((a.data.toList.length : Int) < (b.data.toList.length : Int)) := by
        rw [List.drop_of_length_le (show b.data.toList.length ≤ i by omega), decide_eq_false (by omega : ¬ (a.data.toList.length : Int) < (b.data.toList.length : Int))]
        exact decide_eq_false (List.not_lt_nil _)
      rw [e]
      refine Evt.step (fun k => ?_) (fin i)
      simp only [cartoucheref01_Less.l0]
      rw [if_pos (by omega), decide_eq_false (by omega : ¬ (i : Int) < (b.size : Int))]
theorem less_is (a b : ByteArray) (ha : a.size ≤ 9223372036854775807) : Evt (fun k => cartoucheref01_Less.f k a b) (decide (a.data.toList < b.data.toList)) :=
  less_l0 a b ha a.data.toList.length 0 (by omega) (by omega)

theorem insKey_pass (x : List UInt8) : ∀ (R : List (List UInt8)) (j : Nat), (∀ q, ∀ h : q < R.length, q < j → R[q] < x) → insKey x R = R.take j ++ insKey x (R.drop j)
  | R, 0, _ => by simp
  | [], j + 1, _ => by simp
  | y :: r, j + 1, h => by
    have hy := h 0 (by simp) (by omega)
    rw [List.getElem_cons_zero] at hy
    rw [List.take_succ_cons, List.drop_succ_cons, List.cons_append, ← insKey_pass x r j (fun q hq hj => by have := h (q + 1) (by simp; omega) (by omega); simpa using this)]
    show (if x < y then _ else if x = y then _ else _) = _
    rw [if_neg (fun z => List.lt_irrefl _ (List.lt_trans z hy)), if_neg (fun z => by subst z; exact List.lt_irrefl _ hy)]

section
variable (xs : List S31) (hn : xs.length ≤ 300)
include hn
theorem rkeys_l1 (i : Nat) (hi : i < xs.length) (R : List (List UInt8)) (hR : R.length ≤ i) (hRs : ∀ y ∈ R, y.length ≤ 9223372036854775807) (r : List ByteArray)
    (next : Evt (fun k => cartoucheref08_Keys.l0 k xs ((insKey (nth (evs xs) i).key.data.toList R).map toBA) ((i + 1 : Nat) : Int)) r) :
    ∀ (d j : Nat), j + d = R.length → (∀ q, ∀ h : q < R.length, q < j → R[q] < (nth (evs xs) i).key.data.toList) → Evt (fun k => cartoucheref08_Keys.l1 k xs (R.map toBA) (i : Int) (j : Int)) r := by
  have hlen := evs_len xs
  intro d
  induction d with
  | zero =>
    intro j hj hlt
    have e := insKey_pass (nth (evs xs) i).key.data.toList R j hlt
    rw [List.drop_of_length_le (by omega), show insKey (nth (evs xs) i).key.data.toList [] = [(nth (evs xs) i).key.data.toList] from rfl] at e
    rw [e, List.map_append] at next
    refine Evt.step (fun k => ?_) next
    simp only [cartoucheref08_Keys.l1]
    rw [if_neg (by simp; omega)]
    simp only [Option.bind_some, List.nil_append, List.length_nil, Nat.zero_add, Int.toNat_natCast]
    have hl : ((R.map toBA).take j).length ≤ 300 := by simp; omega
    rw [if_pos (by omega), if_pos (by simp; omega), if_pos (by omega), if_pos (by omega), if_pos (by omega), if_pos (by omega), if_pos (by simp; omega), wrap_succ (n := xs.length) (by omega) (by omega), rd_f2, List.drop_of_length_le (by simp; omega), List.append_nil, List.map_take]
    rfl
  | succ d ih =>
    intro j hj hlt
    have hjR : j < R.length := by omega
    have hrd : rdOf ByteArray.empty (R.map toBA) (j : Int) = toBA R[j] := by
      unfold rdOf
      rw [List.getD_eq_getElem?_getD, Int.toNat_natCast, List.getElem?_map, List.getElem?_eq_getElem hjR]
      rfl
    have hless := less_is (toBA R[j]) (nth (evs xs) i).key (hRs _ (List.getElem_mem hjR))
    rw [toBA_data] at hless
    have body : ∀ k, cartoucheref08_Keys.l1 (k + 1) xs (R.map toBA) (i : Int) (j : Int) = (cartoucheref01_Less.f k (toBA R[j]) (nth (evs xs) i).key).bind fun t => if t = true then cartoucheref08_Keys.l1 k xs (R.map toBA) (i : Int) ((j + 1 : Nat) : Int) else if R[j] = (nth (evs xs) i).key.data.toList then cartoucheref08_Keys.l0 k xs (R.map toBA) ((i + 1 : Nat) : Int) else cartoucheref08_Keys.l0 k xs ((R.map toBA).take j ++ [(nth (evs xs) i).key] ++ (R.map toBA).drop j) ((i + 1 : Nat) : Int) := fun k => by
      simp only [cartoucheref08_Keys.l1]
      have hl : ((R.map toBA).take j).length ≤ 300 := by simp; omega
      rw [if_pos (by simp; omega), if_pos (by omega), if_pos (by omega), if_pos (by omega), hrd, rd_f2, wrap_succ (n := xs.length) (i := i) (by omega) (by omega), wrap_succ (n := R.length) (by omega) (by omega)]
      simp only [Int.toNat_natCast]
      have e3 : ((toBA R[j]).toList = (nth (evs xs) i).key.toList) ↔ (R[j] = (nth (evs xs) i).key.data.toList) := by
        rw [ba_list]
        constructor
        · intro h; rw [← h]; rfl
        · intro h; rw [h]; rfl
      congr 1
      funext t
      by_cases c : t = true
      · rw [if_pos c, if_pos c]
      · rw [if_neg c, if_neg c]
        by_cases c2 : R[j] = (nth (evs xs) i).key.data.toList
        · rw [if_pos c2, if_pos (e3.2 c2)]
        · rw [if_neg c2, if_neg (fun h => c2 (e3.1 h))]
          simp only [Option.bind_some, List.nil_append, List.length_nil, Nat.zero_add]
          rw [if_pos (show (j : Int) ≤ ((R.map toBA).length : Int) by simp; omega)]
          simp only [show ((R.map toBA).take j).length < 8796093022208 by omega, if_true]
          rw [if_pos (by simp; omega)]
    refine Evt.step body ?_
    refine Evt.bind hless ?_
    have e := insKey_pass (nth (evs xs) i).key.data.toList R j hlt
    rw [List.drop_eq_getElem_cons hjR] at e
    by_cases c : R[j] < (nth (evs xs) i).key.data.toList
    · simp only [decide_eq_true c, if_true]
      refine ih (j + 1) (by omega) (fun q h hq => ?_)
      by_cases e2 : q = j
      · subst e2; exact c
      · exact hlt q h (by omega)
    · simp only [decide_eq_false c, Bool.false_eq_true, if_false]
      by_cases c2 : R[j] = (nth (evs xs) i).key.data.toList
      · simp only [c2, if_true]
        rw [show insKey (nth (evs xs) i).key.data.toList (R[j] :: R.drop (j + 1)) = R[j] :: R.drop (j + 1) by
          show (if _ < _ then _ else if _ = _ then _ else _) = _
          rw [if_neg (by rw [c2]; exact List.lt_irrefl _), if_pos c2.symm], ← List.drop_eq_getElem_cons hjR, List.take_append_drop] at e
        rw [e] at next
        exact next
      · simp only [c2, if_false]
        rw [show insKey (nth (evs xs) i).key.data.toList (R[j] :: R.drop (j + 1)) = (nth (evs xs) i).key.data.toList :: R[j] :: R.drop (j + 1) by
          show (if _ < _ then _ else if _ = _ then _ else _) = _
          rw [if_pos (lt_tri c c2)], ← List.drop_eq_getElem_cons hjR] at e
        rw [e] at next
        simp only [List.map_append, List.map_cons, List.map_take, List.map_drop, toBA_self] at next
        simpa [List.append_assoc] using next

theorem rkeys_l0 (hk : ∀ y ∈ xs, y.f2.size ≤ 9223372036854775807) : ∀ (d i : Nat) (R : List (List UInt8)), i + d = xs.length → R.length ≤ i → (∀ y ∈ R, y.length ≤ 9223372036854775807) → keysFold R (Go.Proofs.Ythjgmccpbcelgaa.keyBytes ((evs xs).drop i)) = keysSpec (evs xs) → Evt (fun k => cartoucheref08_Keys.l0 k xs (R.map toBA) (i : Int)) ((keysSpec (evs xs)).map toBA)
  | 0, i, R, hi, hR, hRs, h => Evt.now1 fun k => by
    simp only [cartoucheref08_Keys.l0]
    rw [if_neg (by omega), ← h, List.drop_of_length_le (by rw [evs_len]; omega)]
    rfl
  | d + 1, i, R, hi, hR, hRs, h => by
    have hlen := evs_len xs
    have hi' : i < (evs xs).length := by omega
    rw [List.drop_eq_getElem_cons hi', ← nth_lt hi'] at h
    have hkey : (nth (evs xs) i).key.data.toList.length ≤ 9223372036854775807 := by
      have h1 : nth (evs xs) i ∈ evs xs := by rw [nth_lt hi']; exact List.getElem_mem _
      obtain ⟨y, hy, he⟩ := List.mem_map.1 h1
      have := hk y hy
      rw [← he]
      simpa [toEv] using this
    by_cases q : keyed (nth (evs xs) i) = true
    · have h' : keysFold (insKey (nth (evs xs) i).key.data.toList R) (Go.Proofs.Ythjgmccpbcelgaa.keyBytes ((evs xs).drop (i + 1))) = keysSpec (evs xs) := by
        rw [← h]; unfold Go.Proofs.Ythjgmccpbcelgaa.keyBytes; rw [List.filter_cons, if_pos q]; rfl
      have hil : ∀ (x : List UInt8) (R : List (List UInt8)), (insKey x R).length ≤ R.length + 1 := fun x R => by
        induction R with
        | nil => simp [insKey]
        | cons y r ih =>
          unfold insKey
          split
          · simp
          · split
            · simp
            · simp; omega
      have ih := rkeys_l0 hk d (i + 1) (insKey (nth (evs xs) i).key.data.toList R) (by omega) (by have := hil (nth (evs xs) i).key.data.toList R; omega) (fun y hy => by
        rcases (mem_insKey _ _ _).1 hy with rfl | hy
        · exact hkey
        · exact hRs y hy) h'
      have l1 := rkeys_l1 xs hn i (by omega) R hR hRs _ ih R.length 0 (by omega) (fun q h hq => by omega)
      have j1 : Evt (fun k => cartoucheref08_Keys.j1 k xs (R.map toBA) (i : Int) false) ((keysSpec (evs xs)).map toBA) := by
        refine Evt.step (fun k => ?_) l1
        simp only [cartoucheref08_Keys.j1]
        rw [if_neg (by simp)]
        rfl
      refine Evt.step (fun k => ?_) j1
      simp only [cartoucheref08_Keys.l0]
      rw [if_pos (by omega), if_pos (by omega), rd_f0]
      simp only [Int.toNat_natCast]
      by_cases q2 : (nth (evs xs) i).kind = 2
      · rw [if_pos q2]
      · have q3 : (nth (evs xs) i).kind = 3 := by
          unfold keyed at q; simp at q; omega
        rw [if_neg q2, q3]
        rfl
    · have h' : keysFold R (Go.Proofs.Ythjgmccpbcelgaa.keyBytes ((evs xs).drop (i + 1))) = keysSpec (evs xs) := by
        rw [← h]; unfold Go.Proofs.Ythjgmccpbcelgaa.keyBytes; rw [List.filter_cons, if_neg q]
      have ih := rkeys_l0 hk d (i + 1) R (by omega) (by omega) hRs h'
      have j1 : Evt (fun k => cartoucheref08_Keys.j1 k xs (R.map toBA) (i : Int) true) ((keysSpec (evs xs)).map toBA) := by
        refine Evt.step (fun k => ?_) ih
        simp only [cartoucheref08_Keys.j1]
        rw [if_pos (by trivial), wrap_succ (n := xs.length) (by omega) (by omega)]
      refine Evt.step (fun k => ?_) j1
      simp only [cartoucheref08_Keys.l0]
      rw [if_pos (by omega), if_pos (by omega), rd_f0]
      simp only [Int.toNat_natCast]
      unfold keyed at q
      simp at q
      rw [if_neg q.1, show ((nth (evs xs) i).kind != 3) = true by simpa using q.2]
theorem rkeys (hk : ∀ y ∈ xs, y.f2.size ≤ 9223372036854775807) : Evt (fun k => cartoucheref08_Keys.f k xs) ((keysSpec (evs xs)).map toBA) :=
  rkeys_l0 xs hn hk xs.length 0 [] (by omega) (by simp) (fun y hy => by cases hy) rfl
end
theorem sameT_l0 (xs : List ByteArray) (hn : xs.length ≤ 140737488351232) : ∀ (d i : Nat), i + d = xs.length → Evt (fun k => cartoucheref01_Same.l0 k xs xs (i : Int)) true
  | 0, i, hi => Evt.now1 fun k => by
    simp only [cartoucheref01_Same.l0]
    rw [if_neg (by omega)]
  | d + 1, i, hi => by
    refine Evt.step (fun k => ?_) (sameT_l0 xs hn d (i + 1) (by omega))
    simp only [cartoucheref01_Same.l0]
    rw [if_pos (by omega), if_pos (by omega), if_pos (by omega), if_pos (by trivial), wrap_succ (n := xs.length) (by omega) hn]
theorem sameT_self (xs : List ByteArray) (hn : xs.length ≤ 140737488351232) : Evt (fun k => cartoucheref01_Same.f k xs xs) true := by
  refine Evt.congr (fun k => ?_) (sameT_l0 xs hn xs.length 0 (by omega))
  unfold cartoucheref01_Same.f
  rw [if_pos (by trivial)]
  rfl
theorem keysSpec_len (l : List Go.Proofs.Ythjgmccpbcelgaa.Ev) : (keysSpec l).length ≤ l.length := by
  have hil : ∀ (x : List UInt8) (R : List (List UInt8)), (insKey x R).length ≤ R.length + 1 := fun x R => by
    induction R with
    | nil => simp [insKey]
    | cons y r ih =>
      unfold insKey
      split
      · simp
      · split
        · simp
        · simp; omega
  have hf : ∀ (ks R : List (List UInt8)), (keysFold R ks).length ≤ R.length + ks.length := fun ks => by
    induction ks with
    | nil => intro R; simp [keysFold]
    | cons x r ih => intro R; have h1 := ih (insKey x R); have h2 := hil x R; show (keysFold (insKey x R) r).length ≤ _; simp; omega
  have h1 := hf (Go.Proofs.Ythjgmccpbcelgaa.keyBytes l) []
  have h2 := List.length_filter_le keyed l
  unfold keysSpec
  unfold Go.Proofs.Ythjgmccpbcelgaa.keyBytes at h1 ⊢
  simp at h1
  omega

theorem p_HistoryLives (l : List S31) (t : Int) (hS : ∀ y ∈ l, EvS y) (hl : l.length * 48 ≤ 140737488351232) (_ : (Lit.int .i64 t).wf = true) : ∃ k, cartouchelaw08_HistoryLives.f k l t = some true := by
  apply Evt.rounds
  have hlen := evs_len l
  by_cases q : l.length ≤ 300
  · have hk : ∀ y ∈ l, y.f2.size ≤ 9223372036854775807 := fun y hy => by have := (hS y hy).2.2.1; unfold maxLen at this; exact this
    have hll := lives_len (evs l)
    have hkl := keysSpec_len (evs l)
    refine Evt.congr (f := fun k => (cartoucheref08_Lives.f k l).bind fun t794 => (cartoucheref08_SameLives.f k ((lives (evs l)).map ofLife) t794).bind fun t797 => if t797 = true then (cartoucheref08_Keys.f k l).bind fun t801 => (cartoucheref01_Same.f k ((keysSpec (evs l)).map toBA) t801).bind fun t804 => if t804 = true then some true else some false else some false) (fun k => ?_)
      (Evt.bind (rlives l q) (Evt.bind' (fun k => rfl) (sameLives_self _ (by simp; omega)) (Evt.congr (fun k => by rw [if_pos (by trivial)]) (Evt.bind (rkeys l q hk) (Evt.bind' (fun k => rfl) (sameT_self _ (by simp; omega)) (Evt.now fun k => by rw [if_pos (by trivial)]))))))
    unfold cartouchelaw08_HistoryLives.f cartouchelaw08_few.f history_Lives.f history_Keys.f history_Find.f cartoucheref08_Find.f
    rw [shown08]
    simp only [Option.bind_some]
    rw [if_pos (show decide ((l.length : Int) ≤ 300) = true by simp; omega), if_pos (show l.length ≤ 1000 by omega), if_pos (show l.length ≤ 1000000 ∧ ∀ x ∈ l, x.f2.size ≤ 9223372036854775807 from ⟨by omega, hk⟩)]
    simp [show l.length ≤ 140737488351232 by omega]
  · refine Evt.now fun k => ?_
    unfold cartouchelaw08_HistoryLives.f cartouchelaw08_few.f
    rw [shown08]
    simp only [Option.bind_some]
    rw [if_neg (by simp; omega)]
end Go.Proofs.YthjgmccpbcelgaaPr
