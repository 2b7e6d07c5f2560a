/-
  The program's check.Round, and its contract in the words of the printed ones.
-/
import Derived.Test.YtebjiimlcnmfpaaGreatA16
import Derived.Test.YtebjiimlcnmfpaaGreatA21
import Derived.Test.YtebjiimlcnmfpaaGreatB1
set_option linter.unusedVariables false
set_option linter.unusedSimpArgs false
namespace Go.Proofs.YtebjiimlcnmfpaaGreat
section
open Go Go.RowKit Go.Proofs Go.Shelf
set_option linter.unusedSimpArgs false
set_option linter.unusedVariables false
attribute [local go_sem] Ext.alloc Ext.alloc2 Ext.alloc3 Ext.alloc4 Ext.drewN_alloc Ext.drewN_alloc2 Ext.drew_alloc Ext.drew Ext.drewN toList_beq

/-- The place behind one of a ring. -/
def nxt (n i : Nat) : Nat := if i + 1 = n then 0 else i + 1
/-- Does an edge of a ring hold, and meet the one behind it? -/
def roundAt (l : List Ev) (lev : Int) (rs : List Edge) (i : Nat) : Bool :=
  holds l (enth rs i) && (decide ((enth rs i).to_ = (enth rs (nxt rs.length i)).from_) && !decide (lev = 2 ∧ (enth rs i).kind = 3 ∧ (enth rs (nxt rs.length i)).kind = 3))
def roundS (l : List Ev) (lev : Int) (rs : List Edge) : Bool := decide (0 < rs.length) && (List.range rs.length).all (roundAt l lev rs)
theorem roundS_no {l : List Ev} {lev : Int} {rs : List Edge} {i : Nat} (hi : i < rs.length) (h : roundAt l lev rs i = false) : roundS l lev rs = false := by
  unfold roundS
  cases hb : (List.range rs.length).all (roundAt l lev rs) with
  | false => simp
  | true =>
    rw [List.all_eq_true] at hb
    have := hb i (List.mem_range.2 hi)
    rw [h] at this; cases this
set_option maxRecDepth 100000 in
set_option maxHeartbeats 16000000 in
theorem c_round (w : World) (A B : Option Addr) (n cap m c : Nat) (l : List Ev) (lev : Int) (rs : List Edge) (hE : Evs w A n l) (hR : Edgs w B m rs) :
    Calls Tryz.prog 42 #[.slice A n cap, .int .i64 lev, .slice B m c] w fun e w' => e = .returned (.bool (roundS l lev rs)) ∧ Ext w w' := by
  have hX := Ext.refl w
  have hbig := hR.big
  have hrl := hid hR.len
  have HE := hid hE
  clear hE
  go_enter Tryz.func42, Tryz.ntmps42
  go_wp2
  go_loopw [12] (fun v W => Ext w W ∧ ∃ k : Nat, k ≤ m ∧ v = .int .i64 k ∧ Hid (∀ j, j < k → roundAt l lev rs j = true)) (fun v _ => m - (RowKit.intOf v).toNat)
  case atStart => exact ⟨hX, 0, by omega, rfl, hid (fun j hj => by omega)⟩
  case round =>
    obtain ⟨hW, i, hi, rfl, hr⟩ := hrel
    by_cases hlt : i < m
    case neg =>
      have hall : roundS l lev rs = decide (0 < m) := by
        unfold roundS
        rw [hrl.out]
        have : (List.range m).all (roundAt l lev rs) = true := List.all_eq_true.2 fun j hj => hr.out j (by have := List.mem_range.1 hj; omega)
        rw [this, Bool.and_true]
      go_wp2
      go_ret
      exact ⟨ret_bool (by rw [hall] <;> simp), hW⟩
    obtain ⟨nx, hnx⟩ : ∃ nx, nxt m i = nx := ⟨_, rfl⟩
    have hnx2 : nx < m := by rw [← hnx]; unfold nxt; split <;> omega
    have hmod : Int.tmod ((i : Int) + 1) (m : Int) = (nx : Int) := by
      rw [← hnx]; unfold nxt
      by_cases e : i + 1 = m
      · rw [if_pos e, show ((i : Int) + 1) = (m : Int) by omega]; exact Int.tmod_self
      · rw [if_neg e, Int.tmod_eq_of_lt (by omega) (by omega)]; omega
    have hAT : Hid (roundAt l lev rs i = (holds l (enth rs i) && (decide ((enth rs i).to_ = (enth rs nx).from_) && !decide (lev = 2 ∧ (enth rs i).kind = 3 ∧ (enth rs nx).kind = 3)))) := hid (by unfold roundAt; rw [hrl.out, hnx])
    have hNO := hid (fun (h : roundAt l lev rs i = false) => roundS_no (by rw [hrl.out]; exact hlt) h)
    have hYES : Hid (roundAt l lev rs i = true → ∀ j, j < i + 1 → roundAt l lev rs j = true) := hid (fun h j hj => by
      by_cases e : j = i
      · rw [e]; exact h
      · exact hr.out j (by omega))
    have hm0 : ¬ ((m : Int) = 0) := by omega
    have hm1 : ¬ m = 0 := by omega
    have hm2 : ¬ (m : Int) = -1 := by omega
    clear hnx
    obtain ⟨b, o, rfl, q0, q1, q2, q3, q4⟩ := Edgs.opn hR (by omega)
    have c0 := q0 wr i hW hlt
    have d0 := q0 wr nx hW hnx2
    have c1 := q1 wr i hW hlt
    have d1 := q1 wr nx hW hnx2
    have c2 := q2 wr i hW hlt
    have d2 := q2 wr nx hW hnx2
    have c3 := q3 wr i hW hlt
    have d3 := q3 wr nx hW hnx2
    have c4 := q4 wr i hW hlt
    have d4 := q4 wr nx hW hnx2
    have hbb : b < wr.heap.size := block_lt_of_cell c0
    have hb1' : wr.heap.size ≠ b := by omega
    have hb2' : wr.heap.size + 1 ≠ b := by omega
    have HH := hid (fun W (h : Ext w W) => e_holds W A n cap l (enth rs i) (HE.out.ext h))
    obtain ⟨hb, hhb⟩ : ∃ hb, holds l (enth rs i) = hb := ⟨_, rfl⟩
    rw [hhb] at HH hAT
    clear q0 q1 q2 q3 q4 hhb hR
    have hnx3 : (nx : Int) < (m : Int) := by omega
    go_wp2
    have hw1 : wrap64 ((i : Int) + 1) = (i : Int) + 1 := by unfold wrap64; omega
    have hw5 : wrap64 (nx : Int) = (nx : Int) := by unfold wrap64; omega
    have hw6 : (0 : Int) ≤ (nx : Int) := by omega
    have hb3' : b < wr.heap.size + 1 := by omega
    have hb4' : b < wr.heap.size + 1 + 1 := by omega
    go_region
    all_goals clear hw1 hw5 hw6 hb3' hb4'
    · have hXf : Ext w (((wr.alloc (.cells #[.int .i64 (enth rs i).kind, .int .i64 (enth rs i).from_, .int .i64 (enth rs i).to_, .int .i64 (enth rs i).i, .int .i64 (enth rs i).j] 24)).alloc (.cells #[.int .i64 (enth rs nx).kind, .int .i64 (enth rs nx).from_, .int .i64 (enth rs nx).to_, .int .i64 (enth rs nx).i, .int .i64 (enth rs nx).j] 24)).drew) := ((hW.alloc _).alloc _).drew
      have hPA := (((Blk.new wr 24 #[.int .i64 (enth rs i).kind, .int .i64 (enth rs i).from_, .int .i64 (enth rs i).to_, .int .i64 (enth rs i).i, .int .i64 (enth rs i).j])).alloc (.cells #[.int .i64 (enth rs nx).kind, .int .i64 (enth rs nx).from_, .int .i64 (enth rs nx).to_, .int .i64 (enth rs nx).i, .int .i64 (enth rs nx).j] 24)).drew
      have hPC := ((Blk.new (wr.alloc (.cells #[.int .i64 (enth rs i).kind, .int .i64 (enth rs i).from_, .int .i64 (enth rs i).to_, .int .i64 (enth rs i).i, .int .i64 (enth rs i).j] 24)) 24 #[.int .i64 (enth rs nx).kind, .int .i64 (enth rs nx).from_, .int .i64 (enth rs nx).to_, .int .i64 (enth rs nx).i, .int .i64 (enth rs nx).j])).drew
      rw [World.size_alloc] at hPC
      obtain ⟨Wf, hWf⟩ : ∃ W, ((wr.alloc (.cells #[.int .i64 (enth rs i).kind, .int .i64 (enth rs i).from_, .int .i64 (enth rs i).to_, .int .i64 (enth rs i).i, .int .i64 (enth rs i).j] 24)).alloc (.cells #[.int .i64 (enth rs nx).kind, .int .i64 (enth rs nx).from_, .int .i64 (enth rs nx).to_, .int .i64 (enth rs nx).i, .int .i64 (enth rs nx).j] 24)).drew = W := ⟨_, rfl⟩
      rw [hWf] at hXf hPA hPC ⊢
      clear hWf c0 c1 c2 c3 c4 d0 d1 d2 d3 d4 hbb hb1' hb2'
      obtain ⟨p0, p1, p2, p3, p4⟩ := hPA.cells5
      have PA := hid hPA
      have PC := hid hPC
      clear hPA hPC
      cases hb
      case false =>
        have HZ := hid (show roundS l _ rs = false from hNO.out (by rw [hAT.out]; simp))
        go_wp2_with (go_at_call 26; (with_reducible refine (HH.out _ hXf).mono ?_); rintro e w2 ⟨rfl, hx2⟩; have hX2 := hXf.trans hx2; obtain ⟨x0, x1, x2, x3, x4⟩ := (PA.out.ext hx2).cells5; obtain ⟨y0, y1, y2, y3, y4⟩ := (PC.out.ext hx2).cells5)
        go_ret
        exact ⟨ret_bool HZ.out.symm, hX2⟩
      by_cases cc : (enth rs i).to_ = (enth rs nx).from_
      case neg =>
        have hd : ((enth rs i).to_ == (enth rs nx).from_) = false := beq_eq_false_iff_ne.2 cc
        have HZ := hid (show roundS l _ rs = false from hNO.out (by rw [hAT.out]; simp [cc]))
        go_wp2_with (go_at_call 26; (with_reducible refine (HH.out _ hXf).mono ?_); rintro e w2 ⟨rfl, hx2⟩; have hX2 := hXf.trans hx2; obtain ⟨x0, x1, x2, x3, x4⟩ := (PA.out.ext hx2).cells5; obtain ⟨y0, y1, y2, y3, y4⟩ := (PC.out.ext hx2).cells5)
        go_ret
        exact ⟨ret_bool HZ.out.symm, hX2⟩
      by_cases c2 : lev = 2
      case neg =>
        have hd : (lev == 2) = false := beq_eq_false_iff_ne.2 c2
        have hz := hid (hYES.out (by rw [hAT.out]; simp [cc, c2]))
        have CC := hid cc
        clear cc
        go_wp2_with (go_at_call 26; (with_reducible refine (HH.out _ hXf).mono ?_); rintro e w2 ⟨rfl, hx2⟩; have hX2 := hXf.trans hx2; obtain ⟨x0, x1, x2, x3, x4⟩ := (PA.out.ext hx2).cells5; obtain ⟨y0, y1, y2, y3, y4⟩ := (PC.out.ext hx2).cells5; have cc := CC.out)
        exact ⟨⟨hX2, i + 1, by omega, by go_num, hz⟩, by simp [RowKit.intOf]; omega⟩
      subst c2
      by_cases c3 : (enth rs i).kind = 3
      case neg =>
        have hd : ((enth rs i).kind == 3) = false := beq_eq_false_iff_ne.2 c3
        have hz := hid (hYES.out (by rw [hAT.out]; simp [cc, c3]))
        have CC := hid cc
        clear cc
        go_wp2_with (go_at_call 26; (with_reducible refine (HH.out _ hXf).mono ?_); rintro e w2 ⟨rfl, hx2⟩; have hX2 := hXf.trans hx2; obtain ⟨x0, x1, x2, x3, x4⟩ := (PA.out.ext hx2).cells5; obtain ⟨y0, y1, y2, y3, y4⟩ := (PC.out.ext hx2).cells5; have cc := CC.out)
        exact ⟨⟨hX2, i + 1, by omega, by go_num, hz⟩, by simp [RowKit.intOf]; omega⟩
      by_cases c4 : (enth rs nx).kind = 3
      case neg =>
        have hd : ((enth rs nx).kind == 3) = false := beq_eq_false_iff_ne.2 c4
        have hz := hid (hYES.out (by rw [hAT.out]; simp [cc, c4]))
        have CC := hid cc
        clear cc
        have C3 := hid c3
        clear c3
        go_wp2_with (go_at_call 26; (with_reducible refine (HH.out _ hXf).mono ?_); rintro e w2 ⟨rfl, hx2⟩; have hX2 := hXf.trans hx2; obtain ⟨x0, x1, x2, x3, x4⟩ := (PA.out.ext hx2).cells5; obtain ⟨y0, y1, y2, y3, y4⟩ := (PC.out.ext hx2).cells5; have cc := CC.out; have c3 := C3.out)
        exact ⟨⟨hX2, i + 1, by omega, by go_num, hz⟩, by simp [RowKit.intOf]; omega⟩
      have HZ := hid (show roundS l _ rs = false from hNO.out (by rw [hAT.out]; simp [cc, c3, c4]))
      have CC := hid cc
      clear cc
      have C3 := hid c3
      clear c3
      have C4 := hid c4
      clear c4
      go_wp2_with (go_at_call 26; (with_reducible refine (HH.out _ hXf).mono ?_); rintro e w2 ⟨rfl, hx2⟩; have hX2 := hXf.trans hx2; obtain ⟨x0, x1, x2, x3, x4⟩ := (PA.out.ext hx2).cells5; obtain ⟨y0, y1, y2, y3, y4⟩ := (PC.out.ext hx2).cells5; have cc := CC.out; have c3 := C3.out; have c4 := C4.out)
      go_ret
      exact ⟨ret_bool HZ.out.symm, hX2⟩
    · have hXf : Ext w (((wr.alloc (.cells #[.int .i64 (enth rs nx).kind, .int .i64 (enth rs nx).from_, .int .i64 (enth rs nx).to_, .int .i64 (enth rs nx).i, .int .i64 (enth rs nx).j] 24)).alloc (.cells #[.int .i64 (enth rs i).kind, .int .i64 (enth rs i).from_, .int .i64 (enth rs i).to_, .int .i64 (enth rs i).i, .int .i64 (enth rs i).j] 24)).drew) := ((hW.alloc _).alloc _).drew
      have hPA := ((Blk.new (wr.alloc (.cells #[.int .i64 (enth rs nx).kind, .int .i64 (enth rs nx).from_, .int .i64 (enth rs nx).to_, .int .i64 (enth rs nx).i, .int .i64 (enth rs nx).j] 24)) 24 #[.int .i64 (enth rs i).kind, .int .i64 (enth rs i).from_, .int .i64 (enth rs i).to_, .int .i64 (enth rs i).i, .int .i64 (enth rs i).j])).drew
      have hPC := (((Blk.new wr 24 #[.int .i64 (enth rs nx).kind, .int .i64 (enth rs nx).from_, .int .i64 (enth rs nx).to_, .int .i64 (enth rs nx).i, .int .i64 (enth rs nx).j])).alloc (.cells #[.int .i64 (enth rs i).kind, .int .i64 (enth rs i).from_, .int .i64 (enth rs i).to_, .int .i64 (enth rs i).i, .int .i64 (enth rs i).j] 24)).drew
      rw [World.size_alloc] at hPA
      obtain ⟨Wf, hWf⟩ : ∃ W, ((wr.alloc (.cells #[.int .i64 (enth rs nx).kind, .int .i64 (enth rs nx).from_, .int .i64 (enth rs nx).to_, .int .i64 (enth rs nx).i, .int .i64 (enth rs nx).j] 24)).alloc (.cells #[.int .i64 (enth rs i).kind, .int .i64 (enth rs i).from_, .int .i64 (enth rs i).to_, .int .i64 (enth rs i).i, .int .i64 (enth rs i).j] 24)).drew = W := ⟨_, rfl⟩
      rw [hWf] at hXf hPA hPC ⊢
      clear hWf c0 c1 c2 c3 c4 d0 d1 d2 d3 d4 hbb hb1' hb2'
      obtain ⟨p0, p1, p2, p3, p4⟩ := hPA.cells5
      have PA := hid hPA
      have PC := hid hPC
      clear hPA hPC
      cases hb
      case false =>
        have HZ := hid (show roundS l _ rs = false from hNO.out (by rw [hAT.out]; simp))
        go_wp2_with (go_at_call 26; (with_reducible refine (HH.out _ hXf).mono ?_); rintro e w2 ⟨rfl, hx2⟩; have hX2 := hXf.trans hx2; obtain ⟨x0, x1, x2, x3, x4⟩ := (PA.out.ext hx2).cells5; obtain ⟨y0, y1, y2, y3, y4⟩ := (PC.out.ext hx2).cells5)
        go_ret
        exact ⟨ret_bool HZ.out.symm, hX2⟩
      by_cases cc : (enth rs i).to_ = (enth rs nx).from_
      case neg =>
        have hd : ((enth rs i).to_ == (enth rs nx).from_) = false := beq_eq_false_iff_ne.2 cc
        have HZ := hid (show roundS l _ rs = false from hNO.out (by rw [hAT.out]; simp [cc]))
        go_wp2_with (go_at_call 26; (with_reducible refine (HH.out _ hXf).mono ?_); rintro e w2 ⟨rfl, hx2⟩; have hX2 := hXf.trans hx2; obtain ⟨x0, x1, x2, x3, x4⟩ := (PA.out.ext hx2).cells5; obtain ⟨y0, y1, y2, y3, y4⟩ := (PC.out.ext hx2).cells5)
        go_ret
        exact ⟨ret_bool HZ.out.symm, hX2⟩
      by_cases c2 : lev = 2
      case neg =>
        have hd : (lev == 2) = false := beq_eq_false_iff_ne.2 c2
        have hz := hid (hYES.out (by rw [hAT.out]; simp [cc, c2]))
        have CC := hid cc
        clear cc
        go_wp2_with (go_at_call 26; (with_reducible refine (HH.out _ hXf).mono ?_); rintro e w2 ⟨rfl, hx2⟩; have hX2 := hXf.trans hx2; obtain ⟨x0, x1, x2, x3, x4⟩ := (PA.out.ext hx2).cells5; obtain ⟨y0, y1, y2, y3, y4⟩ := (PC.out.ext hx2).cells5; have cc := CC.out)
        exact ⟨⟨hX2, i + 1, by omega, by go_num, hz⟩, by simp [RowKit.intOf]; omega⟩
      subst c2
      by_cases c3 : (enth rs i).kind = 3
      case neg =>
        have hd : ((enth rs i).kind == 3) = false := beq_eq_false_iff_ne.2 c3
        have hz := hid (hYES.out (by rw [hAT.out]; simp [cc, c3]))
        have CC := hid cc
        clear cc
        go_wp2_with (go_at_call 26; (with_reducible refine (HH.out _ hXf).mono ?_); rintro e w2 ⟨rfl, hx2⟩; have hX2 := hXf.trans hx2; obtain ⟨x0, x1, x2, x3, x4⟩ := (PA.out.ext hx2).cells5; obtain ⟨y0, y1, y2, y3, y4⟩ := (PC.out.ext hx2).cells5; have cc := CC.out)
        exact ⟨⟨hX2, i + 1, by omega, by go_num, hz⟩, by simp [RowKit.intOf]; omega⟩
      by_cases c4 : (enth rs nx).kind = 3
      case neg =>
        have hd : ((enth rs nx).kind == 3) = false := beq_eq_false_iff_ne.2 c4
        have hz := hid (hYES.out (by rw [hAT.out]; simp [cc, c4]))
        have CC := hid cc
        clear cc
        have C3 := hid c3
        clear c3
        go_wp2_with (go_at_call 26; (with_reducible refine (HH.out _ hXf).mono ?_); rintro e w2 ⟨rfl, hx2⟩; have hX2 := hXf.trans hx2; obtain ⟨x0, x1, x2, x3, x4⟩ := (PA.out.ext hx2).cells5; obtain ⟨y0, y1, y2, y3, y4⟩ := (PC.out.ext hx2).cells5; have cc := CC.out; have c3 := C3.out)
        exact ⟨⟨hX2, i + 1, by omega, by go_num, hz⟩, by simp [RowKit.intOf]; omega⟩
      have HZ := hid (show roundS l _ rs = false from hNO.out (by rw [hAT.out]; simp [cc, c3, c4]))
      have CC := hid cc
      clear cc
      have C3 := hid c3
      clear c3
      have C4 := hid c4
      clear c4
      go_wp2_with (go_at_call 26; (with_reducible refine (HH.out _ hXf).mono ?_); rintro e w2 ⟨rfl, hx2⟩; have hX2 := hXf.trans hx2; obtain ⟨x0, x1, x2, x3, x4⟩ := (PA.out.ext hx2).cells5; obtain ⟨y0, y1, y2, y3, y4⟩ := (PC.out.ext hx2).cells5; have cc := CC.out; have c3 := C3.out; have c4 := C4.out)
      go_ret
      exact ⟨ret_bool HZ.out.symm, hX2⟩
end
end Go.Proofs.YtebjiimlcnmfpaaGreat
namespace Go.Proofs.YtebjiimlcnmfpaaGreatPr
section
open Go Go.RowKit Go.Proofs.YtebjiimlcnmfpaaGreat
def check_Round.f (l0 : List (S50)) (a1 : Int) (l2 : List (S24)) : Option (Bool) := if l0.length ≤ 140737488351232 ∧ l2.length ≤ 140737488351232 then some (roundS (evs l0) a1 (l2.map toEd)) else none
theorem check_Round.calls (A0 : Option Addr) (c0 : Nat) (l0 : List (S50)) (a1 : Int) (A2 : Option Addr) (c2 : Nat) (l2 : List (S24)) (r : Bool) (w : World) (hr0 : YtebjiimlcnmfpaaGreatW.PrintWords.Kd.C k50 w A0 l0.length l0) (hc0 : l0.length ≤ c0) (hr2 : YtebjiimlcnmfpaaGreatW.PrintWords.Kd.C k24 w A2 l2.length l2) (hc2 : l2.length ≤ c2) (h : check_Round.f l0 a1 l2 = some r) :
    Calls Tryz.prog 42 #[.slice A0 l0.length c0, .int .i64 a1, .slice A2 l2.length c2] w fun e w' => e = .returned (.bool r) ∧ Below w.heap.size w w' := by
  unfold check_Round.f at h
  split at h
  · rename_i hn
    injection h with h
    subst h
    exact c_round w A0 A2 l0.length c0 l2.length c2 (evs l0) a1 (l2.map toEd) (evs_of hr0 hn.1) (edgs_of hr2 hn.2)
  · cases h
end
end Go.Proofs.YtebjiimlcnmfpaaGreatPr
