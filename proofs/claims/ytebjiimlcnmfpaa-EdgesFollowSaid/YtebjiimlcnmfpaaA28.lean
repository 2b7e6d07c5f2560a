/-
  The law EdgesFollow, walked by hand: where an edge holds there is a way of edges.
-/
import Derived.Test.YtebjiimlcnmfpaaS15
import Derived.Test.YtebjiimlcnmfpaaS09
import Derived.Test.YtebjiimlcnmfpaaA16
set_option linter.unusedVariables false
set_option linter.unusedSimpArgs false
namespace Go.Proofs.YtebjiimlcnmfpaaPr
open Go.Proofs.Ytebjiimlcnmfpaa
section
open Go Go.RowKit Go.Proofs Go.Shelf
set_option linter.unusedSimpArgs false
set_option linter.unusedVariables false
attribute [local go_sem] Ext.alloc Ext.alloc2 Ext.alloc3 Ext.alloc4 Ext.drewN_alloc Ext.drewN_alloc2 Ext.drew_alloc Ext.drew Ext.drewN toList_beq

/-! ### the small histories, told whole -/
theorem few2_l0 (xs : List S46) (hn : xs.length ≤ 140737488351232) : ∀ (d i : Nat), i + d = xs.length → ∃ b, Evt (fun k => cartouchelaw10_few.l0 k xs (i : Int)) b ∧ (b = true → xs.length ≤ 120 ∧ ∀ j, i ≤ j → j < xs.length → 0 ≤ (nth (evs xs) j).txn ∧ (nth (evs xs) j).txn ≤ 99)
  | 0, i, hi => ⟨decide ((xs.length : Int) ≤ 120), Evt.now1 fun k => by
      simp only [cartouchelaw10_few.l0]
      rw [if_neg (by omega)], fun h => ⟨by have := of_decide_eq_true h; omega, fun j h1 h2 => by omega⟩⟩
  | d + 1, i, hi => by
    obtain ⟨b, hb, hb2⟩ := few2_l0 xs hn d (i + 1) (by omega)
    have j1t : Evt (fun k => cartouchelaw10_few.j1 k xs (i : Int) true) false := Evt.now1 fun k => by
      simp only [cartouchelaw10_few.j1]
      rw [if_pos (by trivial)]
    have j1f : Evt (fun k => cartouchelaw10_few.j1 k xs (i : Int) false) b := by
      refine Evt.step (fun k => ?_) hb
      simp only [cartouchelaw10_few.j1]
      rw [if_neg (by simp), wrap_succ (n := xs.length) (by omega) hn]
    by_cases q : (rd_T46 xs i).f1 < 0
    · refine ⟨false, Evt.step (fun k => ?_) j1t, fun h => by cases h⟩
      simp only [cartouchelaw10_few.l0]
      rw [if_pos (by omega), if_pos (by omega), if_pos q]
    · by_cases q2 : (rd_T46 xs i).f1 > 99
      · refine ⟨false, Evt.step (fun k => ?_) j1t, fun h => by cases h⟩
        simp only [cartouchelaw10_few.l0]
        rw [if_pos (by omega), if_pos (by omega), if_neg q, decide_eq_true q2]
      · refine ⟨b, Evt.step (fun k => ?_) j1f, fun h => ⟨(hb2 h).1, fun j h1 h2 => ?_⟩⟩
        · simp only [cartouchelaw10_few.l0]
          rw [if_pos (by omega), if_pos (by omega), if_neg q, decide_eq_false q2]
        · by_cases e : j = i
          · subst e
            rw [rd_f1, Int.toNat_natCast] at q q2
            omega
          · exact (hb2 h).2 j (by omega) h2
theorem few2_evt (xs : List S46) (hn : xs.length ≤ 140737488351232) : ∃ b, Evt (fun k => cartouchelaw10_few.f k xs) b ∧ (b = true → xs.length ≤ 120 ∧ ∀ j, j < xs.length → 0 ≤ (nth (evs xs) j).txn ∧ (nth (evs xs) j).txn ≤ 99) := by
  obtain ⟨b, h1, h2⟩ := few2_l0 xs hn xs.length 0 (by omega)
  exact ⟨b, h1, fun h => ⟨(h2 h).1, fun j hj => (h2 h).2 j (by omega) hj⟩⟩

/-! ### ways along all edges -/
def allEd (xs : List S46) : List Go.Proofs.Ytebjiimlcnmfpaa.Edge := (allE xs).map toEd'
theorem mem_allEd {xs : List S46} {key : ByteArray} {e : Go.Proofs.Ytebjiimlcnmfpaa.Edge} {i : Nat} (hi : i < xs.length) (hk : (nth (evs xs) i).kind = 2 ∨ (nth (evs xs) i).kind = 3) (hkey : (nth (evs xs) i).key = key) (he : e ∈ ofE (evs xs) key) : e ∈ allEd xs := by
  unfold allEd allE
  refine List.mem_map.2 ⟨ofEdge e, List.mem_flatMap.2 ⟨key, List.mem_map.2 ⟨key.data.toList, ?_, toBA_self key⟩, List.mem_map.2 ⟨e, he, rfl⟩⟩, rfl⟩
  refine ((keysSpec_are (evs xs)).2 _).2 ?_
  unfold Go.Proofs.Ytebjiimlcnmfpaa.keyBytes
  refine List.mem_map.2 ⟨nth (evs xs) i, List.mem_filter.2 ⟨?_, ?_⟩, by rw [hkey]⟩
  · unfold nth
    rw [List.getD_eq_getElem?_getD, List.getElem?_eq_getElem (by rw [evs_len]; exact hi)]
    exact List.getElem_mem _
  · unfold Go.Proofs.Ytebjiimlcnmfpaa.keyed
    rcases hk with h | h <;> rw [h] <;> rfl
theorem Walk_sub {α : Type} {f g : α → Int} {l l' : List α} {a b : Int} {n : Nat} (h : Rg.Walk f g l a n b) (hs : ∀ s ∈ l, s ∈ l') : Rg.Walk f g l' a n b := by
  obtain ⟨r, h1, h2, h3⟩ := h
  exact ⟨r, h1, fun s hs' => hs s (h2 s hs'), h3⟩
theorem holds_walk {xs : List S46} (hw : Wf (evs xs)) (hb : ∀ i : Nat, i < xs.length → (badAt (evs xs) i).kind = 0) {e : Go.Proofs.Ytebjiimlcnmfpaa.Edge} (h : holdsP (evs xs) e) : ∃ n, Rg.Walk Go.Proofs.Ytebjiimlcnmfpaa.Edge.from_ Go.Proofs.Ytebjiimlcnmfpaa.Edge.to_ (allEd xs) e.from_ n e.to_ := by
  obtain ⟨hk, hway⟩ := holds_way hw (fun i hi => hb i (by rw [evs_len] at hi; exact hi)) h
  have hi : e.i.toNat < xs.length := by have h1 := h.2.2.2.1; have h2 := h.2.2.2.2.1; rw [evs_len] at h2; omega
  have hsub : ∀ s ∈ ofN (evs xs) (nth (evs xs) e.i.toNat).key, s ∈ allEd xs := fun s hs => mem_allEd hi hk rfl (List.mem_filter.1 hs).1
  rcases hway with ⟨_, n, hn⟩ | ⟨_, c, hc, n, hn⟩
  · exact ⟨n, Walk_sub hn hsub⟩
  · rcases hc with hc | ⟨x, hx, _, h1, h2⟩
    · rw [hc]; exact ⟨n, Walk_sub hn hsub⟩
    · refine ⟨1 + n, Rg.Walk.trans _ _ (b := c) ?_ (Walk_sub hn hsub)⟩
      have := Rg.Walk.one Go.Proofs.Ytebjiimlcnmfpaa.Edge.from_ Go.Proofs.Ytebjiimlcnmfpaa.Edge.to_ (mem_allEd hi hk rfl hx)
      rw [h1, h2] at this
      exact this
/-- Who is reached, row by row of the table. -/
def RF (el : List Go.Proofs.Ytebjiimlcnmfpaa.Edge) (a : Int) (n i : Nat) (R : Nat → Bool) : Prop :=
  (∀ m y, m ≤ n → Rg.Walk Go.Proofs.Ytebjiimlcnmfpaa.Edge.from_ Go.Proofs.Ytebjiimlcnmfpaa.Edge.to_ el a m y → R y.toNat = true) ∧ ∀ j, j < i → Rg.Walk Go.Proofs.Ytebjiimlcnmfpaa.Edge.from_ Go.Proofs.Ytebjiimlcnmfpaa.Edge.to_ el a n (enth' el j).from_ → R (enth' el j).to_.toNat = true
def hitR (p : Nat) (R : Nat → Bool) : Nat → Bool := fun j => decide (j = p) || R j
theorem RF.start (el : List Go.Proofs.Ytebjiimlcnmfpaa.Edge) (a : Int) (p : Nat) (h : a = p) : RF el a 0 0 (hitR p (fun _ => false)) := by
  refine ⟨fun m y hm ⟨r, h1, _, h3⟩ => ?_, fun j hj => by omega⟩
  obtain rfl : r = [] := List.length_eq_zero_iff.1 (by omega)
  have : a = y := h3
  subst this
  unfold hitR
  rw [h]; simp
theorem RF.hit {el : List Go.Proofs.Ytebjiimlcnmfpaa.Edge} {a : Int} {n i : Nat} {R : Nat → Bool} (h : RF el a n i R) (p : Nat) (hp : (enth' el i).to_ = p) : RF el a n (i + 1) (hitR p R) := by
  refine ⟨fun m y hm hw => ?_, fun j hj hw => ?_⟩
  · unfold hitR; rw [h.1 m y hm hw]; simp
  · unfold hitR
    by_cases e : j = i
    · subst e; rw [hp]; simp
    · rw [h.2 j (by omega) hw]; simp
theorem RF.miss {el : List Go.Proofs.Ytebjiimlcnmfpaa.Edge} {a : Int} {n i : Nat} {R : Nat → Bool} (h : RF el a n i R) (hp : R (enth' el i).from_.toNat = false) : RF el a n (i + 1) R := by
  refine ⟨h.1, fun j hj hw => ?_⟩
  by_cases e : j = i
  · subst e
    have := h.1 n _ (Nat.le_refl _) hw
    rw [hp] at this; cases this
  · exact h.2 j (by omega) hw
theorem RF.next {el : List Go.Proofs.Ytebjiimlcnmfpaa.Edge} {a : Int} {n : Nat} {R : Nat → Bool} (h : RF el a n el.length R) : RF el a (n + 1) 0 R := by
  refine ⟨fun m y hm hw => ?_, fun j hj => by omega⟩
  by_cases e : m = n + 1
  · subst e
    obtain ⟨r, h1, h2, h3⟩ := hw
    have hne : r ≠ [] := fun z => by rw [z] at h1; simp at h1
    have hr := List.dropLast_concat_getLast hne
    rw [← hr] at h3
    obtain ⟨c, h4, h5, h6⟩ := (Rg.chain_append _ _ _ _ _ _).1 h3
    have h6 : (r.getLast hne).to_ = y := h6
    have hm := h2 _ (List.getLast_mem hne)
    obtain ⟨j, hj, hje⟩ := List.getElem_of_mem hm
    have hjn : enth' el j = r.getLast hne := by unfold enth'; rw [List.getD_eq_getElem?_getD, List.getElem?_eq_getElem hj, hje]; rfl
    have := h.2 j hj (by
      rw [hjn, h5]
      exact ⟨r.dropLast, by rw [List.length_dropLast]; omega, fun s hs => h2 s (List.dropLast_subset _ hs), h4⟩)
    rw [hjn, h6] at this
    exact this
  · exact h.1 m y (by omega) hw
def toArr (R : Nat → Bool) : Array Value := ((List.range 100).map fun i => Value.bool (R i)).toArray
theorem arr_get (R : Nat → Bool) {i : Nat} (hi : i < 100) : (toArr R)[i]? = some (.bool (R i)) := by
  unfold toArr
  rw [List.getElem?_toArray, List.getElem?_map, List.getElem?_range hi]
  rfl
theorem arr_set (R : Nat → Bool) {p : Nat} (hp : p < 100) : (toArr R).setIfInBounds p (.bool true) = toArr (hitR p R) := by
  apply Array.ext_getElem?
  intro j
  rw [Array.getElem?_setIfInBounds]
  by_cases hj : j < 100
  · rw [arr_get _ hj, arr_get _ hj]
    by_cases e : p = j
    · subst e
      rw [if_pos rfl, if_pos (by unfold toArr; simpa using hj)]
      unfold hitR; simp
    · rw [if_neg e]
      unfold hitR
      rw [decide_eq_false (fun h => e h.symm), Bool.false_or]
  · have h1 : ∀ R', (toArr R')[j]? = none := fun R' => Array.getElem?_eq_none (by unfold toArr; simp; omega)
    rw [h1, h1]
    split
    · rw [if_neg (by unfold toArr; simp; omega)]
    · rfl
theorem arr_zero : Array.replicate 100 (Value.bool false) = toArr (fun _ => false) := by
  apply Array.ext_getElem?
  intro j
  by_cases hj : j < 100
  · rw [arr_get _ hj, Array.getElem?_replicate, if_pos hj]
  · rw [Array.getElem?_eq_none (by simp; omega), Array.getElem?_eq_none (by unfold toArr; simp; omega)]
theorem zc : Try.zeroCells39 = toArr (fun _ => false) := by kernel_rfl
theorem zget {i : Nat} (hi : i < 100) : Try.zeroCells39[i]? = some (.bool false) := by rw [zc]; exact arr_get _ hi
set_option maxRecDepth 100000 in
set_option maxHeartbeats 8000000 in
theorem follow10 (w : World) (A : Option Addr) (cap : Nat) (l : List S46) (e : S38) (hC : YtebjiimlcnmfpaaW.PrintWords.Kd.C k46 w A l.length l) (hcap : l.length ≤ cap) (hS : ∀ y ∈ l, EvS y) (hl : l.length * 48 ≤ 140737488351232) :
    Calls Try.prog 5 #[.slice A l.length cap, .agg #[.int .i64 e.f0, .int .i64 e.f1, .int .i64 e.f2, .int .i64 e.f3, .int .i64 e.f4]] w fun e w' => e = .returned (.bool true) ∧ Ext w w' := by
  obtain ⟨ek, ef, et, ei, ej⟩ := e
  dsimp only
  obtain ⟨ks, hks⟩ := shown10.rounds
  obtain ⟨b, hb, hb2⟩ := few2_evt l (by omega)
  obtain ⟨kf, hkf⟩ := hb.rounds
  obtain ⟨kb, hkb⟩ := (bads_evt l (by omega)).rounds
  have HF : Hid (cartoucheref08_Formed.f l = some ((formed (evs l)).1, (formed (evs l)).2)) := hid (by
    unfold cartoucheref08_Formed.f
    rw [if_pos (by omega)])
  have hf0 : (formed (evs l)).2 = 0 → Wf (evs l) := fun h => formed_wf h
  obtain ⟨g1, hg1⟩ : ∃ g, (formed (evs l)).1 = g := ⟨_, rfl⟩
  obtain ⟨g2, hg2⟩ : ∃ g, (formed (evs l)).2 = g := ⟨_, rfl⟩
  rw [hg1, hg2] at HF
  rw [hg2] at hf0
  have HW := hid hf0
  have HB2 := hid hb2
  clear hb hb2 hg1 hg2 hf0
  have hXw := (Ext.refl w).alloc (.cells #[.int .i64 ek, .int .i64 ef, .int .i64 et, .int .i64 ei, .int .i64 ej] 38)
  have pe := Blk.new w 38 #[.int .i64 ek, .int .i64 ef, .int .i64 et, .int .i64 ei, .int .i64 ej]
  have C0 := hid (YtebjiimlcnmfpaaW.PrintWords.Kd.C_below hC hXw)
  go_enter Try.func5, Try.ntmps5
  go_wp2_with (fail)
  obtain ⟨w0, hw0⟩ : ∃ w0, w.alloc (.cells #[.int .i64 ek, .int .i64 ef, .int .i64 et, .int .i64 ei, .int .i64 ej] 38) = w0 := ⟨_, rfl⟩
  rw [hw0] at hXw pe C0 ⊢
  have PE := hid pe
  clear hw0 pe hC
  by_cases hb : b = false
  · subst hb
    go_wp2_with first
      | (go_at_call 9; (with_reducible refine (cartouchelaw10_shown.calls ks true _ hks).mono ?_); rintro e1 w1 ⟨rfl, hx1⟩; have hY1 : Ext w0 w1 := hx1; have C1 := hid (YtebjiimlcnmfpaaW.PrintWords.Kd.C_below C0.out hY1))
      | (go_at_call 10; (with_reducible refine (cartouchelaw10_few.calls kf _ _ l false _ C1.out hcap hkf).mono ?_); rintro e2 w2 ⟨rfl, ⟨⟨nd, rfl⟩⟩⟩; have hY2 : Ext w0 (w1.drewN nd) := hY1.drewN nd; have C2 := hid (YtebjiimlcnmfpaaW.PrintWords.Kd.C_below C0.out hY2))
      | (go_at_call 11; (with_reducible refine (cartoucheref08_Formed.calls A cap l _ _ _ C2.out hcap HF.out).mono ?_); rintro e3 w3 ⟨rfl, hx3⟩; have hY3 : Ext w0 w3 := hY2.trans hx3; have C3 := hid (YtebjiimlcnmfpaaW.PrintWords.Kd.C_below C0.out hY3))
      | (go_at_call 12; (with_reducible refine (cartoucheref09_All.calls kb A cap l (badsS l) _ C3.out hcap hkb).mono ?_); rintro e4 w4 ⟨v4, rfl, hR4, hx4⟩; have hY4 : Ext w0 w4 := hY3.trans hx4; have C4 := hid (YtebjiimlcnmfpaaW.PrintWords.Kd.C_below C0.out hY4); obtain ⟨A4, c4, rfl, hc4, hC4⟩ := YtebjiimlcnmfpaaW.PrintWords.Kd.N_reads (YtebjiimlcnmfpaaW.PrintWords.Kd.R_N hR4); clear hR4 hC4; obtain ⟨y0, y1, y2, y3, y4⟩ := Blk.cells5' (PE.out.ext hY4))
    go_ret
    exact ⟨rfl, hXw.trans hY4⟩
  obtain rfl : b = true := by simpa using hb
  obtain ⟨hn, hin⟩ := HB2.out rfl
  clear hb HB2
  by_cases hq : g2 ≠ 0
  · have hq2 : (g2 == 0) = false := by simp [hq]
    go_wp2_with first
      | (go_at_call 9; (with_reducible refine (cartouchelaw10_shown.calls ks true _ hks).mono ?_); rintro e1 w1 ⟨rfl, hx1⟩; have hY1 : Ext w0 w1 := hx1; have C1 := hid (YtebjiimlcnmfpaaW.PrintWords.Kd.C_below C0.out hY1))
      | (go_at_call 10; (with_reducible refine (cartouchelaw10_few.calls kf _ _ l true _ C1.out hcap hkf).mono ?_); rintro e2 w2 ⟨rfl, ⟨⟨nd, rfl⟩⟩⟩; have hY2 : Ext w0 (w1.drewN nd) := hY1.drewN nd; have C2 := hid (YtebjiimlcnmfpaaW.PrintWords.Kd.C_below C0.out hY2))
      | (go_at_call 11; (with_reducible refine (cartoucheref08_Formed.calls A cap l _ _ _ C2.out hcap HF.out).mono ?_); rintro e3 w3 ⟨rfl, hx3⟩; have hY3 : Ext w0 w3 := hY2.trans hx3; have C3 := hid (YtebjiimlcnmfpaaW.PrintWords.Kd.C_below C0.out hY3))
      | (go_at_call 12; (with_reducible refine (cartoucheref09_All.calls kb A cap l (badsS l) _ C3.out hcap hkb).mono ?_); rintro e4 w4 ⟨v4, rfl, hR4, hx4⟩; have hY4 : Ext w0 w4 := hY3.trans hx4; have C4 := hid (YtebjiimlcnmfpaaW.PrintWords.Kd.C_below C0.out hY4); obtain ⟨A4, c4, rfl, hc4, hC4⟩ := YtebjiimlcnmfpaaW.PrintWords.Kd.N_reads (YtebjiimlcnmfpaaW.PrintWords.Kd.R_N hR4); clear hR4 hC4; obtain ⟨y0, y1, y2, y3, y4⟩ := Blk.cells5' (PE.out.ext hY4))
    go_ret
    exact ⟨rfl, hXw.trans hY4⟩
  obtain rfl : g2 = 0 := by omega
  clear hq
  have hw := HW.out rfl
  by_cases hz : ¬ badsS l = []
  · have hz2 : 0 < (badsS l).length := List.length_pos_iff.2 hz
    go_wp2_with first
      | (go_at_call 9; (with_reducible refine (cartouchelaw10_shown.calls ks true _ hks).mono ?_); rintro e1 w1 ⟨rfl, hx1⟩; have hY1 : Ext w0 w1 := hx1; have C1 := hid (YtebjiimlcnmfpaaW.PrintWords.Kd.C_below C0.out hY1))
      | (go_at_call 10; (with_reducible refine (cartouchelaw10_few.calls kf _ _ l true _ C1.out hcap hkf).mono ?_); rintro e2 w2 ⟨rfl, ⟨⟨nd, rfl⟩⟩⟩; have hY2 : Ext w0 (w1.drewN nd) := hY1.drewN nd; have C2 := hid (YtebjiimlcnmfpaaW.PrintWords.Kd.C_below C0.out hY2))
      | (go_at_call 11; (with_reducible refine (cartoucheref08_Formed.calls A cap l _ _ _ C2.out hcap HF.out).mono ?_); rintro e3 w3 ⟨rfl, hx3⟩; have hY3 : Ext w0 w3 := hY2.trans hx3; have C3 := hid (YtebjiimlcnmfpaaW.PrintWords.Kd.C_below C0.out hY3))
      | (go_at_call 12; (with_reducible refine (cartoucheref09_All.calls kb A cap l (badsS l) _ C3.out hcap hkb).mono ?_); rintro e4 w4 ⟨v4, rfl, hR4, hx4⟩; have hY4 : Ext w0 w4 := hY3.trans hx4; have C4 := hid (YtebjiimlcnmfpaaW.PrintWords.Kd.C_below C0.out hY4); obtain ⟨A4, c4, rfl, hc4, hC4⟩ := YtebjiimlcnmfpaaW.PrintWords.Kd.N_reads (YtebjiimlcnmfpaaW.PrintWords.Kd.R_N hR4); clear hR4 hC4; obtain ⟨y0, y1, y2, y3, y4⟩ := Blk.cells5' (PE.out.ext hY4))
    go_ret
    exact ⟨rfl, hXw.trans hY4⟩
  have hz : badsS l = [] := Classical.not_not.1 hz
  have HZ := hid (bads_none (xs := l) (by rw [hz]; rfl))
  obtain ⟨hd, hhd⟩ : ∃ hd, holds (evs l) ⟨ek, ef, et, ei, ej⟩ = hd := ⟨_, rfl⟩
  have HH : Hid (edges_Holds.f l ek ef et ei ej = some hd) := hid (by
    unfold edges_Holds.f
    rw [if_pos (by omega), hhd])
  by_cases hh : hd = false
  · subst hh
    go_wp2_with first
      | (go_at_call 9; (with_reducible refine (cartouchelaw10_shown.calls ks true _ hks).mono ?_); rintro e1 w1 ⟨rfl, hx1⟩; have hY1 : Ext w0 w1 := hx1; have C1 := hid (YtebjiimlcnmfpaaW.PrintWords.Kd.C_below C0.out hY1))
      | (go_at_call 10; (with_reducible refine (cartouchelaw10_few.calls kf _ _ l true _ C1.out hcap hkf).mono ?_); rintro e2 w2 ⟨rfl, ⟨⟨nd, rfl⟩⟩⟩; have hY2 : Ext w0 (w1.drewN nd) := hY1.drewN nd; have C2 := hid (YtebjiimlcnmfpaaW.PrintWords.Kd.C_below C0.out hY2))
      | (go_at_call 11; (with_reducible refine (cartoucheref08_Formed.calls A cap l _ _ _ C2.out hcap HF.out).mono ?_); rintro e3 w3 ⟨rfl, hx3⟩; have hY3 : Ext w0 w3 := hY2.trans hx3; have C3 := hid (YtebjiimlcnmfpaaW.PrintWords.Kd.C_below C0.out hY3))
      | (go_at_call 12; (with_reducible refine (cartoucheref09_All.calls kb A cap l (badsS l) _ C3.out hcap hkb).mono ?_); rintro e4 w4 ⟨v4, rfl, hR4, hx4⟩; have hY4 : Ext w0 w4 := hY3.trans hx4; have C4 := hid (YtebjiimlcnmfpaaW.PrintWords.Kd.C_below C0.out hY4); obtain ⟨A4, c4, rfl, hc4, hC4⟩ := YtebjiimlcnmfpaaW.PrintWords.Kd.N_reads (YtebjiimlcnmfpaaW.PrintWords.Kd.R_N hR4); clear hR4 hC4; obtain ⟨y0, y1, y2, y3, y4⟩ := Blk.cells5' (PE.out.ext hY4))
      | (go_at_call 14; (with_reducible refine (edges_Holds.calls A cap l _ _ _ _ _ false _ C4.out hcap HH.out).mono ?_); rintro e5 w5 ⟨rfl, hx5⟩; have hY5 : Ext w0 w5 := hY4.trans hx5; have C5 := hid (YtebjiimlcnmfpaaW.PrintWords.Kd.C_below C0.out hY5))
    go_ret
    exact ⟨rfl, hXw.trans hY5⟩
  obtain rfl : hd = true := by simpa using hh
  have hHP : holdsP (evs l) ⟨ek, ef, et, ei, ej⟩ := of_decide_eq_true hhd
  clear hh hhd
  have hlen := allE_len l (by omega)
  have hin' : ∀ i : Nat, i < (evs l).length → ∃ p : Nat, p < 100 ∧ (nth (evs l) i).txn = (p : Int) := fun i hi => by
    rw [evs_len] at hi
    obtain ⟨h1, h2⟩ := hin i hi
    exact ⟨(nth (evs l) i).txn.toNat, by omega, by omega⟩
  have hG : Hid (∀ k, k < (allE l).length → ∃ p q : Nat, p < 100 ∧ q < 100 ∧ (enth' (allEd l) k).from_ = (p : Int) ∧ (enth' (allEd l) k).to_ = (q : Int)) := hid (fun k hk => by
    obtain ⟨x, key, h1, h2⟩ := allE_good (List.getElem_mem hk)
    have hx : enth' (allEd l) k = x := by
      unfold enth' allEd
      rw [List.getD_eq_getElem?_getD, List.getElem?_map, List.getElem?_eq_getElem hk, h1]
      rfl
    obtain ⟨gi, gj, e1, e2, l1, l2, f1, f2, _⟩ := of_good h2
    obtain ⟨p, p1, p2⟩ := hin' gi l1
    obtain ⟨q, q1, q2⟩ := hin' gj l2
    exact ⟨p, q, p1, q1, by rw [hx, f1, p2], by rw [hx, f2, q2]⟩)
  have hcom : ∀ t : Int, comOf (evs l) t = true → ∃ p : Nat, p < 100 ∧ t = (p : Int) := fun t ht => by
    obtain ⟨c1, c2, _⟩ := comOf_end ht
    obtain ⟨u, hu, hul, hut, _⟩ := endOf_place c1
    obtain ⟨p, p1, p2⟩ := hin' u hul
    exact ⟨p, p1, by rw [← hut, p2]⟩
  obtain ⟨pf, hpf, hff⟩ := hcom ef hHP.1
  obtain ⟨pt, hpt, htt⟩ := hcom et hHP.2.1
  have HWK : Hid (∃ m, m ≤ 100 ∧ Rg.Walk Go.Proofs.Ytebjiimlcnmfpaa.Edge.from_ Go.Proofs.Ytebjiimlcnmfpaa.Edge.to_ (allEd l) ef m et) := hid (by
    obtain ⟨n, hwk⟩ := holds_walk hw HZ.out hHP
    obtain ⟨m, m1, _, m2⟩ := Rg.walk_short Go.Proofs.Ytebjiimlcnmfpaa.Edge.from_ Go.Proofs.Ytebjiimlcnmfpaa.Edge.to_ (allEd l) ((List.range 100).map Int.ofNat) (fun s hs => by
      obtain ⟨k, hk, hke⟩ := List.getElem_of_mem hs
      have hk' : k < (allE l).length := by unfold allEd at hk; rwa [List.length_map] at hk
      obtain ⟨p, q, p1, _, p2, _⟩ := hG.out k hk'
      have : enth' (allEd l) k = s := by unfold enth'; rw [List.getD_eq_getElem?_getD, List.getElem?_eq_getElem hk, hke]; rfl
      rw [this] at p2
      exact List.mem_map.2 ⟨p, List.mem_range.2 p1, p2.symm⟩) _ _ n hwk
    rw [List.length_map, List.length_range] at m1
    exact ⟨m, m1, m2⟩)
  obtain rfl := hff
  obtain rfl := htt
  have hpf2 : (pf : Int) < 100 := by omega
  obtain ⟨ka, hka⟩ := (all_evt l (by omega) hS).rounds
  go_wp2_with first
      | (go_at_call 9; (with_reducible refine (cartouchelaw10_shown.calls ks true _ hks).mono ?_); rintro e1 w1 ⟨rfl, hx1⟩; have hY1 : Ext w0 w1 := hx1; have C1 := hid (YtebjiimlcnmfpaaW.PrintWords.Kd.C_below C0.out hY1))
      | (go_at_call 10; (with_reducible refine (cartouchelaw10_few.calls kf _ _ l true _ C1.out hcap hkf).mono ?_); rintro e2 w2 ⟨rfl, ⟨⟨nd, rfl⟩⟩⟩; have hY2 : Ext w0 (w1.drewN nd) := hY1.drewN nd; have C2 := hid (YtebjiimlcnmfpaaW.PrintWords.Kd.C_below C0.out hY2))
      | (go_at_call 11; (with_reducible refine (cartoucheref08_Formed.calls A cap l _ _ _ C2.out hcap HF.out).mono ?_); rintro e3 w3 ⟨rfl, hx3⟩; have hY3 : Ext w0 w3 := hY2.trans hx3; have C3 := hid (YtebjiimlcnmfpaaW.PrintWords.Kd.C_below C0.out hY3))
      | (go_at_call 12; (with_reducible refine (cartoucheref09_All.calls kb A cap l (badsS l) _ C3.out hcap hkb).mono ?_); rintro e4 w4 ⟨v4, rfl, hR4, hx4⟩; have hY4 : Ext w0 w4 := hY3.trans hx4; have C4 := hid (YtebjiimlcnmfpaaW.PrintWords.Kd.C_below C0.out hY4); obtain ⟨A4, c4, rfl, hc4, hC4⟩ := YtebjiimlcnmfpaaW.PrintWords.Kd.N_reads (YtebjiimlcnmfpaaW.PrintWords.Kd.R_N hR4); clear hR4 hC4; obtain ⟨y0, y1, y2, y3, y4⟩ := Blk.cells5' (PE.out.ext hY4))
      | (go_at_call 14; (with_reducible refine (edges_Holds.calls A cap l _ _ _ _ _ true _ C4.out hcap HH.out).mono ?_); rintro e5 w5 ⟨rfl, hx5⟩; have hY5 : Ext w0 w5 := hY4.trans hx5; have C5 := hid (YtebjiimlcnmfpaaW.PrintWords.Kd.C_below C0.out hY5))
      | (go_at_call 13; (with_reducible refine (edges_All.calls ka _ _ l (allE l) _ C5.out hcap hka).mono ?_); rintro e6 w6 ⟨v6, rfl, hR6, hx6⟩; have hY6 : Ext w0 w6 := hY5.trans hx6; have bz := Blk.new w6 39 Try.zeroCells39; have zp := (bz.cell pf).trans (zget hpf); have zf := bz.frozen pf; obtain ⟨z0, z1, z2, z3, z4⟩ := Blk.cells5' ((PE.out.ext hY6).alloc (.cells Try.zeroCells39 39)))
  obtain ⟨A6, c6, rfl, hc6, hC6⟩ := YtebjiimlcnmfpaaW.PrintWords.Kd.N_reads (YtebjiimlcnmfpaaW.PrintWords.Kd.R_N hR6)
  have hS6 : Sl kEd' w6 A6 (allE l).length (allEd l) := sl_of k38 (fun x => (toEd' x).cs) (fun h => k38_open h) kEd' toEd' rfl (by decide) (fun _ _ => rfl) hC6 (by omega)
  have hel : (allEd l).length = (allE l).length := by unfold allEd; rw [List.length_map]
  clear hR6 hC6 hks hkf hka hkb hS hHP HH HZ hin hin' hcom hw HW y0 y1 y2 y3 y4 C0 C1 C2 C3 C4 C5 HF
  generalize allEd l = el at *
  generalize (allE l).length = ne at *
  have hzc : Try.zeroCells39.setIfInBounds pf (.bool true) = toArr (hitR pf (fun _ => false)) := by rw [zc, arr_set _ hpf]
  have hb7 := Blk.new w6 39 (Try.zeroCells39.setIfInBounds pf (.bool true))
  have hE7 := (Ext.refl w6).alloc (.cells (Try.zeroCells39.setIfInBounds pf (.bool true)) 39)
  rw [hzc] at hb7 hE7 ⊢
  obtain ⟨w7, hw7⟩ : ∃ W, w6.alloc (.cells (toArr (hitR pf (fun _ => false))) 39) = W := ⟨_, rfl⟩
  rw [hw7] at hb7 hE7 ⊢
  clear hw7 bz zp zf z0 z1 z2 z3 z4
  obtain ⟨g, hg⟩ : ∃ g, w6.heap.size = g := ⟨_, rfl⟩
  have hgl : Hid (w6.heap.size ≤ g) := hid (by omega)
  rw [hg] at hb7 ⊢
  clear hg
  have hRF := hid (RF.start el pf pf rfl)
  go_loopw [12] (fun v W => Ext w6 W ∧ ∃ (n : Nat) (R : Nat → Bool), n ≤ 100 ∧ v = .int .i64 n ∧ Blk W g 39 (toArr R) ∧ Hid (RF el pf n 0 R)) (fun v _ => 100 - (RowKit.intOf v).toNat)
  case atStart => exact ⟨hE7, 0, _, by omega, rfl, hb7, hRF⟩
  case round =>
    obtain ⟨hW, n, R, hn100, rfl, hB, hr⟩ := hrel
    by_cases hlt : n < 100
    · have hltI : (n : Int) < 100 := by omega
      go_wp2
      go_loopw [13] (fun v W => Ext w6 W ∧ ∃ (i : Nat) (R' : Nat → Bool), i ≤ ne ∧ v = .int .i64 i ∧ Blk W g 39 (toArr R') ∧ Hid (RF el pf n i R')) (fun v _ => ne - (RowKit.intOf v).toNat)
      case atStart => exact ⟨hW, 0, R, by omega, rfl, hB, hr⟩
      case round =>
        obtain ⟨hW2, i, R', hi, rfl, hB2, hr2⟩ := hrel
        by_cases hlt2 : i < ne
        · obtain ⟨p, q, hp, hq, hpe, hqe⟩ := hG.out i hlt2
          obtain ⟨b6, o6, rfl, ht⟩ := edgs_opn' hS6 (by omega)
          obtain ⟨-, x1, x2, -, -⟩ := ht wr i hW2 hlt2
          rw [hpe] at x1
          rw [hqe] at x2
          have hpi : (p : Int) < 100 := by omega
          have hqi : (q : Int) < 100 := by omega
          have rp := (hB2.cell p).trans (arr_get R' hp)
          have rq := (hB2.cell q).trans (arr_get R' hq)
          have rf := hB2.frozen q
          by_cases hR : R' p = true
          · rw [hR] at rp
            have hhit := hid (hr2.out.hit q hqe)
            have hB3 : Blk (wr.setCell ⟨g, q, none⟩ (.bool true)) g 39 (toArr (hitR q R')) := by
              have := hB2.set q (.bool true)
              rw [arr_set _ hq] at this
              exact this
            have hE3 := Ext.setCell (p := ⟨g, q, none⟩) hgl.out hW2 (.bool true)
            go_wp2
            exact ⟨⟨hE3, i + 1, _, by omega, by go_num, hB3, hhit⟩, by simp [RowKit.intOf]; omega⟩
          · have hR2 : R' p = false := by simpa using hR
            rw [hR2] at rp
            have hmiss := hid (hr2.out.miss (by rw [hpe, Int.toNat_natCast]; exact hR2))
            go_wp2
            exact ⟨⟨hW2, i + 1, R', by omega, by go_num, hB2, hmiss⟩, by simp [RowKit.intOf]; omega⟩
        · obtain rfl : i = ne := by omega
          have hnext : Hid (RF el pf (n + 1) 0 R') := hid (RF.next (by rw [hel]; exact hr2.out))
          go_wp2
          exact ⟨⟨hW2, n + 1, R', by omega, by go_num, hB2, hnext⟩, by simp [RowKit.intOf]; omega⟩
    · obtain rfl : n = 100 := by omega
      obtain ⟨m, hm, hwk⟩ := HWK.out
      have hlast := hr.out.1 m _ hm hwk
      rw [Int.toNat_natCast] at hlast
      have hpt2 : (pt : Int) < 100 := by omega
      have rt := (hB.cell pt).trans (arr_get R hpt)
      rw [hlast] at rt
      obtain ⟨z0, z1, z2, z3, z4⟩ := Blk.cells5' (PE.out.ext (hY6.trans hW))
      go_wp2
      go_ret
      exact ⟨rfl, hXw.trans (hY6.trans hW)⟩
end
end Go.Proofs.YtebjiimlcnmfpaaPr
