/-
  The plain law of JudgeLevels: what is accepted as Serial is accepted as Snapshot; the order that is told is of all committed transactions, each once.
-/
import Derived.Test.YtebjiimlcnmfpaaGreatPrCartouchelaw12JudgeLevels
import Derived.Test.YtebjiimlcnmfpaaGreatS17
set_option linter.unusedVariables false
set_option linter.unusedSimpArgs false
namespace Go.Proofs.YtebjiimlcnmfpaaGreatPr
open Go.Proofs.YtebjiimlcnmfpaaGreat
open Go Go.RowKit YtebjiimlcnmfpaaGreatW.PrintWords

/-! ### levels -/
theorem step1_mem {xs : List S50} {e : S24} (h : e ∈ allE xs) : (⟨e.f1, e.f2, [e]⟩ : S80) ∈ stepsH 1 xs := by
  unfold stepsH stepsE
  refine List.mem_map.2 ⟨⟨e.f1, e.f2, [toEd e]⟩, List.mem_flatMap.2 ⟨toEd e, List.mem_map.2 ⟨e, h, rfl⟩, ?_⟩, rfl⟩
  unfold oneE
  rw [if_pos (.inl rfl)]
  exact List.mem_cons_self
/-- A way of steps at level 2 is one of edges. -/
theorem chain_down {xs : List S50} : ∀ (r : List S80) (a b : Int), (∀ s ∈ r, s ∈ stepsH 2 xs) → Rg.chain fr_ to_ r a b → ∃ r', r.length ≤ r'.length ∧ (∀ s ∈ r', s ∈ stepsH 1 xs) ∧ Rg.chain fr_ to_ r' a b
  | [], a, b, _, hc => ⟨[], Nat.le_refl _, fun _ h => (by cases h), hc⟩
  | s :: r, a, b, hr, hc => by
    obtain ⟨r', h1, h2, h3⟩ := chain_down r (to_ s) b (fun y hy => hr y (List.mem_cons_of_mem _ hy)) hc.2
    have hc1 : fr_ s = a := hc.1
    rcases stepsH_is (hr s List.mem_cons_self) with ⟨e, he, rfl, _⟩ | ⟨_, e, he, f, hf, rfl, _, _, hef⟩
    · refine ⟨⟨e.f1, e.f2, [e]⟩ :: r', by simp; omega, fun y hy => ?_, hc1, h3⟩
      rcases List.mem_cons.1 hy with rfl | hy
      · exact step1_mem he
      · exact h2 y hy
    · refine ⟨⟨e.f1, e.f2, [e]⟩ :: ⟨f.f1, f.f2, [f]⟩ :: r', by simp; omega, fun y hy => ?_, hc1, ?_⟩
      · rcases List.mem_cons.1 hy with rfl | hy
        · exact step1_mem he
        · rcases List.mem_cons.1 hy with rfl | hy
          · exact step1_mem hf
          · exact h2 y hy
      · exact ⟨hef, h3⟩
theorem order_down {xs : List S50} {o : List Int} (h : Rg.order fr_ to_ (stepsH 1 xs) (nodesS (evs xs)) = some o) : ∃ o', Rg.order fr_ to_ (stepsH 2 xs) (nodesS (evs xs)) = some o' := by
  refine (Rg.order_or fr_ to_ fun s hs => stepsH_nodes hs).2 fun m c hm ⟨r, h1, h2, h3⟩ => ?_
  obtain ⟨r', g1, g2, g3⟩ := chain_down r c c h2 h3
  exact (Rg.order_or fr_ to_ fun s hs => stepsH_nodes hs).1 ⟨o, h⟩ r'.length c (by omega) ⟨r', rfl, g2, g3⟩

/-! ### the count -/
section
variable (up : Bool) (nodes o : List Int) (lev : Int) (x4 x5 x6 : Int) (x7 : List S24)
theorem rd_nat (l : List Int) {i : Nat} (h : i < l.length) : rd l (i : Int) = l[i] := by
  unfold rd
  rw [Int.toNat_natCast, List.getD_eq_getElem?_getD, List.getElem?_eq_getElem h]; rfl
theorem lv_l1 (hol : o.length ≤ 1000) (hnl : nodes.length ≤ 1000) (i : Nat) (hi : i < nodes.length) (hnext : Evt (fun k => cartouchelaw12_JudgeLevels.l0 k up nodes ((i + 1 : Nat) : Int) lev true o x4 x5 x6 x7) true) : ∀ (d m c : Nat), m + d = o.length → c + (o.drop m).count nodes[i] = 1 →
    Evt (fun k => cartouchelaw12_JudgeLevels.l1 k up nodes (i : Int) (c : Int) (m : Int) lev true o x4 x5 x6 x7) true
  | 0, m, c, hm, hc => by
    rw [List.drop_eq_nil_of_le (by omega), List.count_nil] at hc
    refine Evt.step (fun k => ?_) hnext
    simp only [cartouchelaw12_JudgeLevels.l1]
    rw [if_neg (by omega), if_pos (by omega), wrap_succ (n := nodes.length) (by omega) (by omega)]
  | d + 1, m, c, hm, hc => by
    have hmo : m < o.length := by omega
    rw [List.drop_eq_getElem_cons hmo, List.count_cons] at hc
    by_cases h : o[m] = nodes[i]
    · rw [if_pos (by simp [h])] at hc
      refine Evt.step (fun k => ?_) (lv_l1 hol hnl i hi hnext d (m + 1) (c + 1) (by omega) (by omega))
      simp only [cartouchelaw12_JudgeLevels.l1]
      rw [if_pos (by omega), if_pos (by omega), if_pos (by omega), if_pos (by omega), rd_nat o hmo, rd_nat nodes hi, if_pos h, wrap_succ (i := m) (n := o.length) (by omega) (by omega), show wrap64 ((c : Int) + 1) = ((c + 1 : Nat) : Int) by unfold wrap64; omega]
    · rw [if_neg (by simpa using h)] at hc
      refine Evt.step (fun k => ?_) (lv_l1 hol hnl i hi hnext d (m + 1) c (by omega) (by omega))
      simp only [cartouchelaw12_JudgeLevels.l1]
      rw [if_pos (by omega), if_pos (by omega), if_pos (by omega), if_pos (by omega), rd_nat o hmo, rd_nat nodes hi, if_neg h, wrap_succ (n := o.length) (by omega) (by omega)]
theorem lv_l0 (hol : o.length ≤ 1000) (hnl : nodes.length ≤ 1000) (heq : o.length = nodes.length) (hcnt : ∀ x ∈ nodes, o.count x = 1) : ∀ (d i : Nat), i + d = nodes.length → Evt (fun k => cartouchelaw12_JudgeLevels.l0 k true nodes (i : Int) lev true o x4 x5 x6 x7) true
  | 0, i, hi => Evt.now1 fun k => by
    simp only [cartouchelaw12_JudgeLevels.l0]
    rw [if_neg (by omega), if_pos (by trivial), heq]
    simp
  | d + 1, i, hi => by
    have hil : i < nodes.length := by omega
    refine Evt.step (fun k => ?_) (lv_l1 true nodes o lev x4 x5 x6 x7 hol hnl i hil (lv_l0 hol hnl heq hcnt d (i + 1) (by omega)) o.length 0 0 (by omega) (by rw [List.drop_zero, hcnt _ (List.getElem_mem hil)]))
    simp only [cartouchelaw12_JudgeLevels.l0]
    rw [if_pos (by omega)]
    rfl
end
theorem cnt1 {x : Int} : ∀ {l : List Int}, l.Nodup → x ∈ l → l.count x = 1
  | [], _, h => by cases h
  | y :: r, hn, h => by
    obtain ⟨h1, h2⟩ := List.nodup_cons.1 hn
    rw [List.count_cons]
    by_cases e : y = x
    · subst e
      rw [List.count_eq_zero_of_not_mem h1, if_pos (by simp)]
    · rw [if_neg (by simpa using e), cnt1 h2 ((List.mem_cons.1 h).resolve_left fun z => e z.symm)]
theorem order_nodes {xs : List S50} {lev : Int} {o : List Int} (h : Rg.order fr_ to_ (stepsH lev xs) (nodesS (evs xs)) = some o) : o.length = (nodesS (evs xs)).length ∧ ∀ x ∈ nodesS (evs xs), o.count x = 1 := by
  obtain ⟨g1, g2, _⟩ := Rg.order_some fr_ to_ h
  have hn : (nodesS (evs xs)).Nodup := Rg.rising_nodup (Rg.sortD_rising _)
  have h1 := g1.length_le_of_subset (fun x hx => (g2 x).1 hx)
  have h2 := hn.length_le_of_subset (fun x hx => (g2 x).2 hx)
  exact ⟨by omega, fun x hx => cnt1 g1 ((g2 x).2 hx)⟩
theorem p_JudgeLevels (l : List S50) (hS : ∀ y ∈ l, EvS y) (hl : l.length * 48 ≤ 140737488351232) : ∃ k, cartouchelaw12_JudgeLevels.f k l = some true := by
  apply Evt.rounds
  have hsh : cartouchelaw12_shown.f = some true := rfl
  have hfw : cartouchelaw12_few.f l = some (decide ((l.length : Int) ≤ 80)) := rfl
  by_cases h80 : (l.length : Int) ≤ 80
  · have hn : l.length ≤ 300 := by omega
    have j0f : ∀ (r : Int × List Int × Int × Int × Int × List S24), Evt (fun k => cartouchelaw12_JudgeLevels.j0 k l true false r.1 false r.2.1 r.2.2.1 r.2.2.2.1 r.2.2.2.2.1 r.2.2.2.2.2) true := fun r => Evt.now1 fun k => by
      simp only [cartouchelaw12_JudgeLevels.j0]
      rw [if_neg (by simp), if_neg (by simp)]
    refine Evt.congr (f := fun k => (judge_Judge.f k l 1).bind fun bt280 => ((judge_Judge.f k l 2).bind fun bt293 => (if bt280.2.2.2.2.2.2.2 = bt293.2.2.2.2.2.2.2 then (if bt280.2.2.2.2.2.2.2 = 0 then (if bt280.2.1 = true then (cartouchelaw12_JudgeLevels.j0 k l true (!bt293.2.1) bt280.1 bt280.2.1 bt280.2.2.1 bt280.2.2.2.1 bt280.2.2.2.2.1 bt280.2.2.2.2.2.1 bt280.2.2.2.2.2.2.1) else (cartouchelaw12_JudgeLevels.j0 k l true false bt280.1 bt280.2.1 bt280.2.2.1 bt280.2.2.2.1 bt280.2.2.2.2.1 bt280.2.2.2.2.2.1 bt280.2.2.2.2.2.2.1)) else (cartouchelaw12_JudgeLevels.j0 k l true false bt280.1 bt280.2.1 bt280.2.2.1 bt280.2.2.2.1 bt280.2.2.2.2.1 bt280.2.2.2.2.2.1 bt280.2.2.2.2.2.2.1)) else (cartouchelaw12_JudgeLevels.j0 k l true true bt280.1 bt280.2.1 bt280.2.2.1 bt280.2.2.2.1 bt280.2.2.2.2.1 bt280.2.2.2.2.2.1 bt280.2.2.2.2.2.2.1)))) (fun k => by
      unfold cartouchelaw12_JudgeLevels.f
      rw [hsh, hfw, decide_eq_true h80]
      simp only [Option.bind_some]
      rw [if_pos (by trivial)]) ?_
    refine Evt.bind' (fun k => rfl) (judge_evt l hn hS 1) ?_
    refine Evt.bind' (fun k => rfl) (judge_evt l hn hS 2) ?_
    unfold jS
    rw [if_neg (show ¬ ((1 : Int) < 1 ∨ (1 : Int) > 2) by omega), if_neg (show ¬ ((2 : Int) < 1 ∨ (2 : Int) > 2) by omega)]
    by_cases hf : (formed (evs l)).2 = 0
    · rw [if_pos hf, if_pos hf]
      unfold jokS
      cases hb : badsS l with
      | cons b r =>
        dsimp only
        refine Evt.congr (fun k => ?_) (j0f (1, [], b.f0, b.f1, b.f2, []))
        rw [if_pos rfl, if_pos rfl, if_neg (by simp)]
      | nil =>
        dsimp only
        cases ho : Rg.order fr_ to_ (stepsH 1 l) (nodesS (evs l)) with
        | none =>
          dsimp only
          refine Evt.congr (fun k => ?_) (j0f (1, [], 0, 0, 0, (Rg.ring fr_ to_ (stepsH 1 l)).1.flatMap (fun s => s.f2)))
          cases Rg.order fr_ to_ (stepsH 2 l) (nodesS (evs l)) <;> (dsimp only; rw [if_pos rfl, if_pos rfl, if_neg (by simp)])
        | some o =>
          obtain ⟨o', ho'⟩ := order_down ho
          rw [ho']
          dsimp only
          obtain ⟨q1, q2⟩ := order_nodes ho
          have hnl := nodesS_len (evs l)
          rw [evs_len] at hnl
          have hw := formed_wf hf
          have hT : ∀ i, i < l.length → -1 ≤ (nth (evs l) i).txn ∧ (nth (evs l) i).txn < 300 := fun i hi => by
            obtain ⟨g1, g2⟩ := wf_txn hw (i := i) (by rw [evs_len]; exact hi)
            omega
          have hin := lv_l0 (nodesS (evs l)) o 1 0 0 0 [] (by omega) (by omega) q1 q2 (nodesS (evs l)).length 0 (by omega)
          refine Evt.congr (f := fun k => cartouchelaw12_JudgeLevels.j0 k l true false 1 true o 0 0 0 []) (fun k => by
            rw [if_pos rfl, if_pos rfl, if_pos rfl]; rfl) ?_
          refine Evt.step (f := fun k => (cartoucheref10_Nodes.f k l).bind fun t306 => (cartouchelaw12_JudgeLevels.l0 k true t306 0 1 true o 0 0 0 [])) (fun k => ?_) (Evt.bind' (fun k => rfl) (rnodes_evt l hn hT) hin)
          simp only [cartouchelaw12_JudgeLevels.j0]
          rw [if_neg (by simp), if_pos (by trivial)]
    · rw [if_neg hf, if_neg hf]
      refine Evt.congr (fun k => ?_) (j0f (0, [], 0, 0, 0, []))
      rw [if_pos rfl, if_neg hf]
  · refine Evt.now fun k => ?_
    unfold cartouchelaw12_JudgeLevels.f
    rw [hsh, hfw, decide_eq_false h80]
    simp only [Option.bind_some]
    rw [if_neg (by simp)]
end Go.Proofs.YtebjiimlcnmfpaaGreatPr
