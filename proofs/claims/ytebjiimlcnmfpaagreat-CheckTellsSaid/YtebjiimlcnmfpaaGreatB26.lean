/-
  The document's Round, walked by hand, and its contract in the words of the printed ones.
-/
import Derived.Test.YtebjiimlcnmfpaaGreatB24
import Derived.Test.YtebjiimlcnmfpaaGreatB14
import Derived.Test.YtebjiimlcnmfpaaGreatA21
set_option linter.unusedVariables false
set_option linter.unusedSimpArgs false
namespace Go.Proofs.YtebjiimlcnmfpaaGreatPr
open Go.Proofs.YtebjiimlcnmfpaaGreat
section
open Go Go.RowKit Go.Proofs Go.Shelf
set_option linter.unusedSimpArgs false
set_option linter.unusedVariables false
attribute [local go_sem] Ext.alloc Ext.alloc2 Ext.alloc3 Ext.alloc4 Ext.drewN_alloc Ext.drewN_alloc2 Ext.drew_alloc Ext.drew Ext.drewN toList_beq

theorem rd_ways (h : Bool) (t f lev ka kb : Int) : (h = false ∨ (h = true ∧ (t != f) = true) ∨ (h = true ∧ t = f ∧ lev = 2 ∧ ka = 3 ∧ kb = 3)) ∨
    ((h = true ∧ t = f ∧ (lev == 2) = false) ∨ (h = true ∧ t = f ∧ lev = 2 ∧ (ka == 3) = false) ∨ (h = true ∧ t = f ∧ lev = 2 ∧ ka = 3 ∧ (kb == 3) = false)) := by
  simp only [beq_eq_false_iff_ne, bne_iff_ne]
  cases h
  · simp
  · simp only [true_and]; omega
set_option maxRecDepth 100000 in
set_option maxHeartbeats 16000000 in
theorem r13_round (w : World) (A B : Option Addr) (cap c : Nat) (xs : List S50) (lev : Int) (rs : List S24) (hC : YtebjiimlcnmfpaaGreatW.PrintWords.Kd.C k50 w A xs.length xs) (hcap : xs.length ≤ cap) (hn : xs.length ≤ 140737488351232) (hR0 : YtebjiimlcnmfpaaGreatW.PrintWords.Kd.C k24 w B rs.length rs) (hrn : rs.length ≤ 140737488351232) :
    Calls Tryz.prog 43 #[.slice A xs.length cap, .int .i64 lev, .slice B rs.length c] w fun e w' => e = .returned (.bool (roundS (evs xs) lev (rs.map toEd))) ∧ Ext w w' := by
  have hX := Ext.refl w
  have hR := edgs_of hR0 hrn
  have HC := hid hC
  have hrl := hid (show (rs.map toEd).length = rs.length from List.length_map ..)
  clear hC hR0
  generalize rs.map toEd = es at *
  generalize rs.length = m at *
  go_enter Tryz.func43, Tryz.ntmps43
  go_wp2
  go_loopw [7] (fun v W => Ext w W ∧ ∃ k : Nat, k ≤ m ∧ v = .int .i64 k ∧ Hid (∀ j, j < k → roundAt (evs xs) lev es j = true)) (fun v _ => m - (RowKit.intOf v).toNat)
  case atStart => exact ⟨hX, 0, by omega, rfl, hid (fun j hj => by omega)⟩
  case round =>
    obtain ⟨hW, i, hi, rfl, hr⟩ := hrel
    by_cases hlt : i < m
    case neg =>
      have hall : roundS (evs xs) lev es = decide (0 < m) := by
        unfold roundS
        rw [hrl.out]
        have : (List.range m).all (roundAt (evs xs) lev es) = true := List.all_eq_true.2 fun j hj => hr.out j (by have := List.mem_range.1 hj; omega)
        rw [this, Bool.and_true]
      go_wp2
      go_ret
      exact ⟨ret_bool (by rw [hall] <;> simp), hW⟩
    obtain ⟨ed, hed⟩ : ∃ ed, enth es (nxt m i) = ed := ⟨_, rfl⟩
    have hAT : Hid (roundAt (evs xs) lev es i = (holds (evs xs) (enth es i) && (decide ((enth es i).to_ = ed.from_) && !decide (lev = 2 ∧ (enth es i).kind = 3 ∧ ed.kind = 3)))) := hid (by unfold roundAt; rw [hrl.out, hed])
    have hNO := hid (fun (h : roundAt (evs xs) lev es i = false) => roundS_no (by rw [hrl.out]; exact hlt) h)
    have hYES : Hid (roundAt (evs xs) lev es i = true → ∀ j, j < i + 1 → roundAt (evs xs) lev es j = true) := hid (fun h j hj => by
      by_cases e : j = i
      · rw [e]; exact h
      · exact hr.out j (by omega))
    have hc : (i + 1 = m ∧ enth es 0 = ed) ∨ (i + 1 < m ∧ enth es (i + 1) = ed) := by
      rw [← hed]; unfold nxt
      by_cases e : i + 1 = m
      · exact .inl ⟨e, by rw [if_pos e]⟩
      · exact .inr ⟨by omega, by rw [if_neg e]⟩
    obtain ⟨b, o, rfl, q0, q1, q2, q3, q4⟩ := Edgs.opn hR (by omega)
    have Q0 := hid q0
    have Q1 := hid q1
    have Q2 := hid q2
    have Q3 := hid q3
    have Q4 := hid q4
    have z0 := q0 wr 0 hW (by omega)
    have z1 := q1 wr 0 hW (by omega)
    have z2 := q2 wr 0 hW (by omega)
    have z3 := q3 wr 0 hW (by omega)
    have z4 := q4 wr 0 hW (by omega)
    rw [Nat.zero_mul, Nat.add_zero] at z0 z1 z2 z3 z4
    clear q0 q1 q2 q3 q4 hed
    have hbb : b < wr.heap.size := block_lt_of_cell z0
    have hbb2 : b < wr.heap.size + 1 := by omega
    have hnn : b ≠ wr.heap.size := by omega
    obtain ⟨hb, hhb⟩ : ∃ hb, holds (evs xs) (enth es i) = hb := ⟨_, rfl⟩
    have HH := hid (fun W (h : Ext w W) => cartoucheref10_Holds.calls A cap xs (enth es i).kind (enth es i).from_ (enth es i).to_ (enth es i).i (enth es i).j hb W (C_go HC.out h) hcap (by unfold cartoucheref10_Holds.f; rw [if_pos hn, ← hhb]))
    rw [hhb] at hAT
    clear hhb hR
    rcases hc with ⟨h1, h3⟩ | ⟨h1, h3⟩
    case' inl =>
      have h2 : ¬ ((i : Int) + 1 < (m : Int)) := by omega
      rw [h3] at z0 z1 z2 z3 z4
    case' inr =>
      have h2 : (i : Int) + 1 < (m : Int) := by omega
      have x0 := Q0.out wr (i + 1) hW h1
      have x1 := Q1.out wr (i + 1) hW h1
      have x2 := Q2.out wr (i + 1) hW h1
      have x3 := Q3.out wr (i + 1) hW h1
      have x4 := Q4.out wr (i + 1) hW h1
      rw [h3] at x0 x1 x2 x3 x4
    all_goals
      clear h3
      go_upto_region 7 with (fail)
      have hXf := hW.alloc (.cells #[.int .i64 ed.kind, .int .i64 ed.from_, .int .i64 ed.to_, .int .i64 ed.i, .int .i64 ed.j] 24)
      have hPC := Blk.new wr 24 #[.int .i64 ed.kind, .int .i64 ed.from_, .int .i64 ed.to_, .int .i64 ed.i, .int .i64 ed.j]
      obtain ⟨Wf, hWf⟩ : ∃ W, wr.alloc (.cells #[.int .i64 ed.kind, .int .i64 ed.from_, .int .i64 ed.to_, .int .i64 ed.i, .int .i64 ed.j] 24) = W := ⟨_, rfl⟩
      rw [hWf] at hXf hPC ⊢
      have PC := hid hPC
      have e0 := Q0.out Wf i hXf hlt
      have e1 := Q1.out Wf i hXf hlt
      have e2 := Q2.out Wf i hXf hlt
      have e3 := Q3.out Wf i hXf hlt
      have e4 := Q4.out Wf i hXf hlt
      clear hWf hPC z0 z1 z2 z3 z4 hbb hbb2 hnn
      rcases rd_ways hb (enth es i).to_ ed.from_ lev (enth es i).kind ed.kind with hbad | hgood
      · have HZ := hid (show roundS (evs xs) lev es = false from hNO.out (by
          rw [hAT.out]
          rcases hbad with rfl | ⟨rfl, h⟩ | ⟨rfl, h, h4, h6, h7⟩
          · simp
          · rw [decide_eq_false (bne_iff_ne.1 h)]; simp
          · rw [decide_eq_true (p := lev = 2 ∧ (enth es i).kind = 3 ∧ ed.kind = 3) ⟨h4, h6, h7⟩]; simp))
        clear hNO hYES hAT
        rcases hbad with rfl | ⟨rfl, h⟩ | ⟨rfl, h5, rfl, h6, h7⟩
        all_goals
          try have H5 := hid h5
          try have H6 := hid h6
          try have H7 := hid h7
          try clear h5
          try clear h6
          try clear h7
          go_wp2_with (go_at_call 27; (with_reducible refine (HH.out _ hXf).mono ?_); rintro e w2 ⟨rfl, hx2⟩; have hX2 := hXf.trans hx2; obtain ⟨y0, y1, y2, y3, y4⟩ := (PC.out.ext hx2).cells5; have a0 := Q0.out w2 i hX2 hlt; have a2 := Q2.out w2 i hX2 hlt; try rw [H5.out] at a2; try rw [H6.out] at a0; try rw [H7.out] at y0)
          go_quiet (fail)
          go_wp2
          go_ret
          exact ⟨ret_bool HZ.out.symm, hX2.drewN _⟩
      · have hz := hid (hYES.out (by
          rw [hAT.out]
          rcases hgood with ⟨rfl, h5, h⟩ | ⟨rfl, h5, _, h⟩ | ⟨rfl, h5, _, _, h⟩
          · rw [decide_eq_true h5, decide_eq_false (p := lev = 2 ∧ (enth es i).kind = 3 ∧ ed.kind = 3) (fun z => beq_eq_false_iff_ne.1 h z.1)]; rfl
          · rw [decide_eq_true h5, decide_eq_false (p := lev = 2 ∧ (enth es i).kind = 3 ∧ ed.kind = 3) (fun z => beq_eq_false_iff_ne.1 h z.2.1)]; rfl
          · rw [decide_eq_true h5, decide_eq_false (p := lev = 2 ∧ (enth es i).kind = 3 ∧ ed.kind = 3) (fun z => beq_eq_false_iff_ne.1 h z.2.2)]; rfl))
        clear hNO hYES hAT
        rcases hgood with ⟨rfl, h5, h⟩ | ⟨rfl, h5, rfl, h⟩ | ⟨rfl, h5, rfl, h6, h⟩
        all_goals
          try have H5 := hid h5
          try have H6 := hid h6
          try have H7 := hid h7
          try clear h5
          try clear h6
          try clear h7
          go_wp2_with (go_at_call 27; (with_reducible refine (HH.out _ hXf).mono ?_); rintro e w2 ⟨rfl, hx2⟩; have hX2 := hXf.trans hx2; obtain ⟨y0, y1, y2, y3, y4⟩ := (PC.out.ext hx2).cells5; have a0 := Q0.out w2 i hX2 hlt; have a2 := Q2.out w2 i hX2 hlt; try rw [H5.out] at a2; try rw [H6.out] at a0; try rw [H7.out] at y0)
          go_quiet (fail)
          go_wp2
          exact ⟨⟨hX2.drewN _, i + 1, by omega, by go_num, hz⟩, by simp [RowKit.intOf]; omega⟩
def cartoucheref13_Round.f (l0 : List (S50)) (a1 : Int) (l2 : List (S24)) : Option (Bool) := if l0.length ≤ 140737488351232 ∧ l2.length ≤ 140737488351232 then some (roundS (evs l0) a1 (l2.map toEd)) else none
theorem cartoucheref13_Round.calls (A0 : Option Addr) (c0 : Nat) (l0 : List (S50)) (a1 : Int) (A2 : Option Addr) (c2 : Nat) (l2 : List (S24)) (r : Bool) (w : World) (hr0 : YtebjiimlcnmfpaaGreatW.PrintWords.Kd.C k50 w A0 l0.length l0) (hc0 : l0.length ≤ c0) (hr2 : YtebjiimlcnmfpaaGreatW.PrintWords.Kd.C k24 w A2 l2.length l2) (hc2 : l2.length ≤ c2) (h : cartoucheref13_Round.f l0 a1 l2 = some r) :
    Calls Tryz.prog 43 #[.slice A0 l0.length c0, .int .i64 a1, .slice A2 l2.length c2] w fun e w' => e = .returned (.bool r) ∧ Below w.heap.size w w' := by
  unfold cartoucheref13_Round.f at h
  split at h
  · rename_i hn
    injection h with h
    subst h
    exact r13_round w A0 A2 c0 c2 l0 a1 l2 hr0 hc0 hn.1 hr2 hn.2
  · cases h
theorem rround_f {l : List S50} {lev : Int} {rs : List S24} (hn : l.length ≤ 140737488351232) (hr : rs.length ≤ 140737488351232) : cartoucheref13_Round.f l lev rs = some (roundS (evs l) lev (rs.map toEd)) := by
  unfold cartoucheref13_Round.f
  rw [if_pos ⟨hn, hr⟩]
end
end Go.Proofs.YtebjiimlcnmfpaaGreatPr
