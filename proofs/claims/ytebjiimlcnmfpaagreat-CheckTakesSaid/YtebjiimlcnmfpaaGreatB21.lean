/-
  The reference's steps of edges, walked by hand, and its contract in the words of the printed ones.
-/
import Derived.Test.YtebjiimlcnmfpaaGreatA21
import Derived.Test.YtebjiimlcnmfpaaGreatB1
import Derived.Deep.LoopGhost
set_option linter.unusedVariables false
set_option linter.unusedSimpArgs false
namespace Go.Proofs.YtebjiimlcnmfpaaGreat
section
open Go Go.RowKit Go.Proofs Go.Shelf
set_option linter.unusedSimpArgs false
set_option linter.unusedVariables false
attribute [local go_sem] Ext.alloc Ext.alloc2 Ext.alloc3 Ext.alloc4 Ext.drewN_alloc Ext.drewN_alloc2 Ext.drew_alloc Ext.drew Ext.drewN toList_beq
attribute [-go_sem] Builtin.append_

/-- Two edges in a block of their own. -/
theorem own_fresh2 (w : World) (e f : Edge) {B : Nat} (hB : B ≤ w.heap.size) : (w.alloc (.cells (e.cs ++ f.cs).toArray 24)).ownsRow B 24 5 (.slice (some ⟨w.heap.size, 0, none⟩) 2 2) [e, f].length ([e, f].flatMap Edge.cs) := by
  refine ⟨by simp [Edge.cs], .inr ⟨w.heap.size, 2, (e.cs ++ f.cs).toArray, rfl, hB, ?_, Nat.le_refl _, by unfold maxLen; omega, rfl, by simp [Edge.cs]⟩⟩
  exact heap_alloc_new w _
set_option maxRecDepth 100000 in
set_option maxHeartbeats 8000000 in
theorem r10_steps (w : World) (A : Option Addr) (n cap : Nat) (lev : Int) (l : List Edge) (hE : Edgs w A n l) (hn : (n * (n + 1)) * 40 ≤ 140737488351232) :
    Calls Tryz.prog 69 #[.int .i64 lev, .slice A n cap] w fun e w' => ∃ v pre, e = .returned v ∧ pre.map BE.t = l.flatMap (oneE lev l) ∧ SInv w v pre w' := by
  have hX := Ext.refl w
  have hbig := hE.big
  have hl := hid (Sl.len hE)
  have HE := hid hE
  have HN := hid hn
  clear hE hn
  go_enter Tryz.func69, Tryz.ntmps69
  go_wp2
  go_loopg [5, 6] n (fun n_ out i W => ∃ (k : Nat) (pre : List BE), k ≤ n ∧ n ≤ n_ + k ∧ i = .int .i64 k ∧ SInv w out pre W ∧ Hid (pre.map BE.t = (l.take k).flatMap (oneE lev l)) ∧ Hid (pre.length ≤ k * (n + 1)))
  case atStart => exact ⟨0, [], by omega, by omega, rfl, ⟨hX, World.ownsRow_nil _ _ _ _, fun b hb => by cases hb⟩, hid rfl, hid (by simp)⟩
  case round =>
    obtain ⟨k, pre, hk1, hgk, rfl, hI, hr, hpl⟩ := hrel
    by_cases hlt : k < n
    case neg =>
      have hkn : Hid (l.take k = l) := hid (List.take_of_length_le (by rw [hl.out]; omega))
      have hr2 : Hid (pre.map BE.t = l.flatMap (oneE lev l)) := hid (by rw [hr.out, hkn.out])
      go_wp2
      go_ret
      exact ⟨_, pre, rfl, hr2.out, hI⟩
    obtain ⟨b, o, rfl, h0, h1, h2, h3, h4⟩ := HE.out.opn (by omega)
    have hW := hI.ext
    have hst : Hid ((l.take (k + 1)).flatMap (oneE lev l) = (l.take k).flatMap (oneE lev l) ++ oneE lev l (enth l k)) := hid (by
      rw [List.take_add_one, List.flatMap_append, List.getElem?_eq_getElem (by rw [hl.out]; exact hlt)]
      simp only [Option.toList_some, List.flatMap_cons, List.flatMap_nil, List.append_nil]
      congr 2
      unfold enth
      rw [List.getD_eq_getElem?_getD, List.getElem?_eq_getElem (by rw [hl.out]; exact hlt)]
      rfl)
    have hmul : pre.length * 40 + 40 * (n + 1) ≤ 140737488351232 := by
      have h5 : (k + 1) * (n + 1) ≤ n * (n + 1) := Nat.mul_le_mul_right _ (by omega)
      have := hpl.out
      have := HN.out
      rw [Nat.succ_mul] at h5
      omega
    have H0 := hid h0
    have H1 := hid h1
    have H2 := hid h2
    have H3 := hid h3
    have H4 := hid h4
    have c0 := h0 wr k hW hlt
    have c1 := h1 wr k hW hlt
    have c2 := h2 wr k hW hlt
    have c3 := h3 wr k hW hlt
    have c4 := h4 wr k hW hlt
    have hb0 : b < wr.heap.size := block_lt_of_cell c0
    have hb1 : b < wr.heap.size + 1 := by omega
    have hb2 : b < wr.heap.size + 1 + 1 := by omega
    clear h0 h1 h2 h3 h4
    by_cases hl1 : lev = 1
    case pos =>
      subst hl1
      have hyes : Hid (oneE 1 l (enth l k) = [⟨(enth l k).from_, (enth l k).to_, [enth l k]⟩]) := hid (by
        unfold oneE twoE
        rw [if_pos (.inl rfl)]
        have : (l.filter fun f => decide ((1 : Int) = 2 ∧ f.kind = 3 ∧ f.from_ = (enth l k).to_)) = [] := List.filter_eq_nil_iff.2 (fun f _ => by simp)
        rw [this]; rfl)
      have hI1 := hI.go (((Ext.refl wr).drew).alloc (.cells #[.int .i64 (enth l k).kind, .int .i64 (enth l k).from_, .int .i64 (enth l k).to_, .int .i64 (enth l k).i, .int .i64 (enth l k).j] 24))
      have hheld : Held w.heap.size (wr.drew.alloc (.cells #[.int .i64 (enth l k).kind, .int .i64 (enth l k).from_, .int .i64 (enth l k).to_, .int .i64 (enth l k).i, .int .i64 (enth l k).j] 24)) ⟨⟨(enth l k).from_, (enth l k).to_, some ⟨wr.heap.size, 0, none⟩, 1, 1⟩, ⟨(enth l k).from_, (enth l k).to_, [enth l k]⟩⟩ :=
        ⟨rfl, rfl, by have := own_fresh wr.drew (enth l k) (B := w.heap.size) hI.ext.le; simpa [Edge.cs] using this⟩
      obtain ⟨v', w2, hrun, hown2, hgrow2, hat2⟩ := app_stp hI1.out (by have := hI1.ext.le; exact this) (by simp; omega) 34 ⟨(enth l k).from_, (enth l k).to_, some ⟨wr.heap.size, 0, none⟩, 1, 1⟩
      have hI2 := hI1.put _ hheld hgrow2 hown2
      simp only [World.size_alloc] at hrun
      replace hrun : (Builtin.append_ #[34, 34] 34 #[u5, .slice (some ⟨wr.heap.size + 1, 0, none⟩) 1 1]).run Tryz.prog (((wr.alloc (.cells #[.int .i64 (enth l k).kind, .int .i64 (enth l k).from_, .int .i64 (enth l k).to_, .int .i64 (enth l k).i, .int .i64 (enth l k).j] 24)).alloc (.cells #[.int .i64 (enth l k).from_, .int .i64 (enth l k).to_, .slice (some ⟨wr.heap.size, 0, none⟩) 1 1] 80)).drew) = .ok v' w2 := hrun
      clear hheld hown2 hgrow2 hat2 hI1
      go_wp2
      go_region
      go_wp2
      clear hrun
      go_loopg [5, 7] 0 (fun _ out i W => i = .int .i64 0 ∧ ∃ pre2 : List BE, SInv w out pre2 W ∧ Hid (pre2.map BE.t = (l.take (k + 1)).flatMap (oneE 1 l)) ∧ Hid (pre2.length ≤ (k + 1) * (n + 1)))
      case atStart => exact ⟨rfl, _, hI2, hid (by rw [List.map_append, hr.out, hst.out, hyes.out]; rfl), hid (by have := hpl.out; rw [Nat.succ_mul, List.length_append, List.length_singleton]; omega)⟩
      case round =>
        obtain ⟨rfl, pre2, hJ, hr2, hpl2⟩ := hrel
        have d0 := H0.out wr k hJ.ext hlt
        go_wp2
        go_roundg (n - (k + 1))
        case measure => omega
        case rel => exact ⟨k + 1, pre2, by omega, by omega, by go_num, hJ, hr2, hpl2⟩
    have n1 : (lev == 1) = false := beq_eq_false_iff_ne.mpr hl1
    by_cases hl2 : lev = 2
    case neg =>
      have n2 : (lev == 2) = false := beq_eq_false_iff_ne.mpr hl2
      have hno : Hid (oneE lev l (enth l k) = []) := hid (by unfold oneE; rw [if_neg (fun h => h.elim hl1 (fun z => hl2 z.1))])
      clear hl1 hl2
      go_wp2
      go_loopg [5, 7] 0 (fun _ out i W => i = .int .i64 0 ∧ ∃ pre2 : List BE, SInv w out pre2 W ∧ Hid (pre2.map BE.t = (l.take (k + 1)).flatMap (oneE lev l)) ∧ Hid (pre2.length ≤ (k + 1) * (n + 1)))
      case atStart => exact ⟨rfl, pre, hI, hid (by rw [hst.out, hno.out, List.append_nil]; exact hr.out), hid (by have := hpl.out; rw [Nat.succ_mul]; omega)⟩
      case round =>
        obtain ⟨rfl, pre2, hJ, hr2, hpl2⟩ := hrel
        have d0 := H0.out wr k hJ.ext hlt
        go_wp2
        go_roundg (n - (k + 1))
        case measure => omega
        case rel => exact ⟨k + 1, pre2, by omega, by omega, by go_num, hJ, hr2, hpl2⟩
    subst hl2
    clear hl1 n1
    by_cases hk3 : (enth l k).kind = 3
    case pos =>
      have hno : Hid (oneE 2 l (enth l k) = []) := hid (by unfold oneE; rw [if_neg (fun h => h.elim (fun z => by omega) (fun z => z.2 hk3))])
      rw [hk3] at c0
      go_wp2
      go_loopg [5, 7] 0 (fun _ out i W => i = .int .i64 0 ∧ ∃ pre2 : List BE, SInv w out pre2 W ∧ Hid (pre2.map BE.t = (l.take (k + 1)).flatMap (oneE 2 l)) ∧ Hid (pre2.length ≤ (k + 1) * (n + 1)))
      case atStart => exact ⟨rfl, pre, hI, hid (by rw [hst.out, hno.out, List.append_nil]; exact hr.out), hid (by have := hpl.out; rw [Nat.succ_mul]; omega)⟩
      case round =>
        obtain ⟨rfl, pre2, hJ, hr2, hpl2⟩ := hrel
        have d0 := H0.out wr k hJ.ext hlt
        rw [hk3] at d0
        go_wp2
        go_roundg (n - (k + 1))
        case measure => omega
        case rel => exact ⟨k + 1, pre2, by omega, by omega, by go_num, hJ, hr2, hpl2⟩
    have n3 : ((enth l k).kind != 3) = true := bne_iff_ne.mpr hk3
    have hyes : Hid (oneE 2 l (enth l k) = ⟨(enth l k).from_, (enth l k).to_, [enth l k]⟩ :: twoE 2 l (enth l k)) := hid (if_pos (.inr ⟨rfl, hk3⟩))
    have HK3 := hid hk3
    clear hk3
    have hI1 := hI.go (((Ext.refl wr).drew).alloc (.cells #[.int .i64 (enth l k).kind, .int .i64 (enth l k).from_, .int .i64 (enth l k).to_, .int .i64 (enth l k).i, .int .i64 (enth l k).j] 24))
    have hheld : Held w.heap.size (wr.drew.alloc (.cells #[.int .i64 (enth l k).kind, .int .i64 (enth l k).from_, .int .i64 (enth l k).to_, .int .i64 (enth l k).i, .int .i64 (enth l k).j] 24)) ⟨⟨(enth l k).from_, (enth l k).to_, some ⟨wr.heap.size, 0, none⟩, 1, 1⟩, ⟨(enth l k).from_, (enth l k).to_, [enth l k]⟩⟩ :=
      ⟨rfl, rfl, by have := own_fresh wr.drew (enth l k) (B := w.heap.size) hI.ext.le; simpa [Edge.cs] using this⟩
    obtain ⟨v', w2, hrun, hown2, hgrow2, hat2⟩ := app_stp hI1.out (by have := hI1.ext.le; exact this) (by simp; omega) 34 ⟨(enth l k).from_, (enth l k).to_, some ⟨wr.heap.size, 0, none⟩, 1, 1⟩
    have hI2 := hI1.put _ hheld hgrow2 hown2
    simp only [World.size_alloc] at hrun
    replace hrun : (Builtin.append_ #[34, 34] 34 #[u5, .slice (some ⟨wr.heap.size + 1, 0, none⟩) 1 1]).run Tryz.prog (((wr.alloc (.cells #[.int .i64 (enth l k).kind, .int .i64 (enth l k).from_, .int .i64 (enth l k).to_, .int .i64 (enth l k).i, .int .i64 (enth l k).j] 24)).alloc (.cells #[.int .i64 (enth l k).from_, .int .i64 (enth l k).to_, .slice (some ⟨wr.heap.size, 0, none⟩) 1 1] 80)).drew) = .ok v' w2 := hrun
    clear hheld hown2 hgrow2 hat2 hI1
    go_wp2
    go_region
    go_wp2
    clear hrun
    go_loopg [5, 7] n (fun n_ out i W => ∃ (m : Nat) (post : List BE), m ≤ n ∧ n ≤ n_ + m ∧ i = .int .i64 m ∧ SInv w out (pre ++ post) W ∧ Hid (post.map BE.t = ⟨(enth l k).from_, (enth l k).to_, [enth l k]⟩ :: twoE 2 (l.take m) (enth l k)) ∧ Hid (post.length ≤ m + 1))
    case atStart => exact ⟨0, [_], by omega, by omega, rfl, hI2, hid rfl, hid (by simp)⟩
    case round =>
      clear hI2 c0 c1 c2 c3 c4 hb0 hb1 hb2
      obtain ⟨m, post, hm1, hgm, rfl, hJ, hpost, hpl2⟩ := hrel
      have d0 := H0.out wr k hJ.ext hlt
      by_cases hlt2 : m < n
      case neg =>
        have hmn : Hid (l.take m = l) := hid (List.take_of_length_le (by rw [hl.out]; omega))
        go_wp2
        go_roundg (n - (k + 1))
        case measure => omega
        case rel => exact ⟨k + 1, pre ++ post, by omega, by omega, by go_num, hJ, hid (by rw [List.map_append, hr.out, hst.out, hyes.out, hpost.out, hmn.out]), hid (by have := hpl.out; have := hpl2.out; rw [Nat.succ_mul, List.length_append]; omega)⟩
      have hstep := hid (twoE_step 2 l (enth l k) (m := m) (by rw [hl.out]; exact hlt2))
      have e0 := H0.out wr m hJ.ext hlt2
      have e1 := H1.out wr m hJ.ext hlt2
      have d2 := H2.out wr k hJ.ext hlt
      by_cases hk2 : (enth l m).kind = 3
      case neg =>
        have hb : ((enth l m).kind == 3) = false := beq_eq_false_iff_ne.mpr hk2
        have hno : Hid (twoE 2 (l.take (m + 1)) (enth l k) = twoE 2 (l.take m) (enth l k)) := hid (by rw [hstep.out, if_neg (fun z => hk2 z.2.1), List.append_nil])
        clear hk2
        go_wp2
        go_quiet (fail)
        go_wp2
        go_roundg (n - (m + 1))
        case measure => omega
        case rel => exact ⟨m + 1, post, by omega, by omega, by go_num, hJ.go ((Ext.refl _).drewN _), hid (by rw [hno.out]; exact hpost.out), hid (by have := hpl2.out; omega)⟩
      rw [hk2] at e0
      by_cases hf2 : (enth l m).from_ = (enth l k).to_
      case neg =>
        have hb : ((enth l m).from_ == (enth l k).to_) = false := beq_eq_false_iff_ne.mpr hf2
        have hno : Hid (twoE 2 (l.take (m + 1)) (enth l k) = twoE 2 (l.take m) (enth l k)) := hid (by rw [hstep.out, if_neg (fun z => hf2 z.2.2), List.append_nil])
        clear hf2
        go_wp2
        go_quiet (fail)
        go_wp2
        go_roundg (n - (m + 1))
        case measure => omega
        case rel => exact ⟨m + 1, post, by omega, by omega, by go_num, hJ.go ((Ext.refl _).drewN _), hid (by rw [hno.out]; exact hpost.out), hid (by have := hpl2.out; omega)⟩
      have hyes2 : Hid (twoE 2 (l.take (m + 1)) (enth l k) = twoE 2 (l.take m) (enth l k) ++ [⟨(enth l k).from_, (enth l m).to_, [enth l k, enth l m]⟩]) := hid (by rw [hstep.out, if_pos ⟨rfl, hk2, hf2⟩])
      rw [hf2] at e1
      clear hk2 hf2 hstep
      go_wp2
      go_quiet (fail)
      go_wp2
      have hJq := hJ.go ((Ext.refl wr).drewN nq)
      obtain ⟨wq, hwq⟩ : ∃ W, wr.drewN nq = W := ⟨_, rfl⟩
      rw [hwq] at hJq ⊢
      clear hwq e0 e1 d0 d2 hJ
      have hWq := hJq.ext
      have c0 := H0.out wq k hWq hlt
      have c1 := H1.out wq k hWq hlt
      have c2 := H2.out wq k hWq hlt
      have c3 := H3.out wq k hWq hlt
      have c4 := H4.out wq k hWq hlt
      have e0 := H0.out wq m hWq hlt2
      have e1 := H1.out wq m hWq hlt2
      have e2 := H2.out wq m hWq hlt2
      have e3 := H3.out wq m hWq hlt2
      have e4 := H4.out wq m hWq hlt2
      have hb0 : b < wq.heap.size := block_lt_of_cell c0
      have hb1 : b < wq.heap.size + 1 := by omega
      have hb2 : b < wq.heap.size + 1 + 1 := by omega
      have hI1 := hJq.go (((Ext.refl wq).drew).alloc (.cells #[.int .i64 (enth l k).kind, .int .i64 (enth l k).from_, .int .i64 (enth l k).to_, .int .i64 (enth l k).i, .int .i64 (enth l k).j, .int .i64 (enth l m).kind, .int .i64 (enth l m).from_, .int .i64 (enth l m).to_, .int .i64 (enth l m).i, .int .i64 (enth l m).j] 24))
      have hheld : Held w.heap.size (wq.drew.alloc (.cells #[.int .i64 (enth l k).kind, .int .i64 (enth l k).from_, .int .i64 (enth l k).to_, .int .i64 (enth l k).i, .int .i64 (enth l k).j, .int .i64 (enth l m).kind, .int .i64 (enth l m).from_, .int .i64 (enth l m).to_, .int .i64 (enth l m).i, .int .i64 (enth l m).j] 24)) ⟨⟨(enth l k).from_, (enth l m).to_, some ⟨wq.heap.size, 0, none⟩, 2, 2⟩, ⟨(enth l k).from_, (enth l m).to_, [enth l k, enth l m]⟩⟩ :=
        ⟨rfl, rfl, by have := own_fresh2 wq.drew (enth l k) (enth l m) (B := w.heap.size) hJq.ext.le; simpa [Edge.cs] using this⟩
      have hpl3 := hpl2.out
      obtain ⟨v3, w3, hrun, hown2, hgrow2, hat2⟩ := app_stp hI1.out (by have := hI1.ext.le; exact this) (by simp; omega) 34 ⟨(enth l k).from_, (enth l m).to_, some ⟨wq.heap.size, 0, none⟩, 2, 2⟩
      have hI3 := hI1.put _ hheld hgrow2 hown2
      simp only [World.size_alloc] at hrun
      replace hrun : (Builtin.append_ #[34, 34] 34 #[u5, .slice (some ⟨wq.heap.size + 1, 0, none⟩) 1 1]).run Tryz.prog (((wq.alloc (.cells #[.int .i64 (enth l k).kind, .int .i64 (enth l k).from_, .int .i64 (enth l k).to_, .int .i64 (enth l k).i, .int .i64 (enth l k).j, .int .i64 (enth l m).kind, .int .i64 (enth l m).from_, .int .i64 (enth l m).to_, .int .i64 (enth l m).i, .int .i64 (enth l m).j] 24)).alloc (.cells #[.int .i64 (enth l k).from_, .int .i64 (enth l m).to_, .slice (some ⟨wq.heap.size, 0, none⟩) 2 2] 80)).drew) = .ok v3 w3 := hrun
      clear hheld hown2 hgrow2 hat2 hI1 hpl3
      go_region
      go_wp2
      go_roundg (n - (m + 1))
      case measure => omega
      case rel => exact ⟨m + 1, post ++ [_], by omega, by omega, by go_num, by rw [← List.append_assoc]; exact hI3, hid (by rw [List.map_append, hpost.out, hyes2.out]; rfl), hid (by have := hpl2.out; rw [List.length_append, List.length_singleton]; omega)⟩
end
end Go.Proofs.YtebjiimlcnmfpaaGreat
namespace Go.Proofs.YtebjiimlcnmfpaaGreatPr
section
open Go Go.RowKit Go.Proofs.YtebjiimlcnmfpaaGreat
def cartoucheref10_Steps.f (a0 : Int) (l1 : List (S24)) : Option ((List (S80))) := if (l1.length * (l1.length + 1)) * 40 ≤ 140737488351232 then some (stepsE a0 l1) else none
theorem cartoucheref10_Steps.calls (a0 : Int) (A1 : Option Addr) (c1 : Nat) (l1 : List (S24)) (r : List (S80)) (w : World) (hr1 : YtebjiimlcnmfpaaGreatW.PrintWords.Kd.C k24 w A1 l1.length l1) (hc1 : l1.length ≤ c1) (h : cartoucheref10_Steps.f a0 l1 = some r) :
    Calls Tryz.prog 69 #[.int .i64 a0, .slice A1 l1.length c1] w fun e w' => ∃ v0_ : Value, e = .returned (v0_) ∧ YtebjiimlcnmfpaaGreatW.PrintWords.Kd.N k80 80 w' w.heap.size (fun k_ => (w.heap.size ≤ k_)) v0_ r ∧ Below w.heap.size w w' := by
  unfold cartoucheref10_Steps.f at h
  split at h
  · rename_i hn
    injection h with h
    have hn2 : l1.length ≤ 140737488351232 := by
      have : l1.length * 1 ≤ l1.length * (l1.length + 1) := Nat.mul_le_mul_left _ (by omega)
      omega
    refine (r10_steps w A1 l1.length c1 a0 (l1.map toEd) (edgs_of hr1 hn2) hn).mono fun e w' ⟨v, pre, he, hp, hI⟩ => ⟨v, he, ?_, hI.ext⟩
    have hr : r = pre.map (fun b => stepOf b.t) := by rw [← h]; unfold stepsE; rw [← hp, List.map_map]; rfl
    refine ⟨fun k hk => own_block hI.out k hk, (pre.map BE.s).map Stp.cs, by rw [hr]; simp, ?_, fun j x c hx hc => ?_⟩
    · exact YtebjiimlcnmfpaaGreatW.PrintWords.Kd.raw_tight (r_of (YtebjiimlcnmfpaaGreatW.PrintWords.Kd.raw 3) 80 Stp.cs Stp.cs (fun _ _ _ y => ⟨rfl, rfl, fun u hu => by simp [Stp.cs] at hu; rcases hu with rfl | rfl | rfl <;> rfl⟩) (fun _ => rfl) hI.out)
    · rw [hr, List.getElem?_map] at hx
      obtain ⟨b, hb1, rfl⟩ := Option.map_eq_some_iff.1 hx
      rw [List.map_map, List.getElem?_map, hb1] at hc
      injection hc with hc
      subst hc
      exact held_FK (hI.all b (List.mem_of_getElem? hb1)) hI.out
  · cases h
end
end Go.Proofs.YtebjiimlcnmfpaaGreatPr
