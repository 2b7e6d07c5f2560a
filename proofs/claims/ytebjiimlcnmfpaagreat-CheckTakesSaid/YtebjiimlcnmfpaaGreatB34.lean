/-
  The document's Keys, walked by hand, and its contract in the words of the printed ones.
-/
import Derived.Test.YtebjiimlcnmfpaaGreatPrCartoucheref01Less
import Derived.Test.YtebjiimlcnmfpaaGreatS18
import Derived.Test.YtebjiimlcnmfpaaGreatS14
set_option linter.unusedVariables false
set_option linter.unusedSimpArgs false
namespace Go.Proofs.YtebjiimlcnmfpaaGreatPr
open Go.Proofs.YtebjiimlcnmfpaaGreat
section
open Go Go.RowKit Go.Proofs Go.Shelf
set_option linter.unusedSimpArgs false
set_option linter.unusedVariables false
attribute [local go_sem] Ext.alloc Ext.alloc2 Ext.alloc3 Ext.alloc4 Ext.drewN_alloc Ext.drewN_alloc2 Ext.drew_alloc Ext.drew Ext.drewN toList_beq
attribute [-go_sem] Builtin.append_

def strCs (x : ByteArray) : List Value := [.string x]
theorem infoS : (Tryz.prog.info? 9).map (fun i => (i.zero, i.size, i.bytes)) = some (some (.string ⟨#[]⟩), 1, 16) := by kernel_rfl
theorem s_flat (l : List ByteArray) : l.flatMap strCs = l.map Value.string := by rw [List.map_eq_flatMap]; rfl
def kStr : Go.Proofs.YtebjiimlcnmfpaaGreat.Kd ByteArray := Go.Proofs.YtebjiimlcnmfpaaGreat.Kd.flat 1 ByteArray.empty (fun b => [.string b]) (fun _ => rfl)
def knth (l : List ByteArray) (i : Nat) : ByteArray := l.getD i ByteArray.empty
theorem strs_opn {w : World} {A : Option Addr} {n : Nat} {l : List ByteArray} (h : Sl kStr w A n l) (hn : 0 < n) : ∃ b o, A = some ⟨b, o, none⟩ ∧ ∀ W i, Ext w W → i < n → W.cell? ⟨b, o + i, none⟩ = some (.string (knth l i)) := by
  obtain ⟨b, o, e, hg⟩ := h.get hn
  refine ⟨b, o, e, fun W i hx hi => ?_⟩
  obtain ⟨cs, hR, hc⟩ := hg i hi
  have hcs : cs = [.string (knth l i)] := hR
  have := hc 0 (.string (knth l i)) (by rw [hcs]; rfl)
  rw [Nat.add_zero, show kStr.sz = 1 from rfl, Nat.mul_one] at this
  exact hx.cell this
theorem ownS_C {w : World} {base : Nat} {v : Value} {l : List ByteArray} (h : w.ownsRow base 9 1 v l.length (l.flatMap strCs)) : ∃ A c, v = .slice A l.length c ∧ l.length ≤ c ∧ YtebjiimlcnmfpaaGreatW.PrintWords.Kd.C YtebjiimlcnmfpaaGreatW.PrintWords.Kd.string w A l.length l := by
  have := r_of YtebjiimlcnmfpaaGreatW.PrintWords.Kd.string 9 strCs (fun x => x) (fun _ _ _ _ => rfl) (fun _ => rfl) h
  exact YtebjiimlcnmfpaaGreatW.PrintWords.Kd.N_reads (YtebjiimlcnmfpaaGreatW.PrintWords.Kd.R_N (by simpa using this))
theorem strs_of {w : World} {A : Option Addr} {l : List ByteArray} (h : YtebjiimlcnmfpaaGreatW.PrintWords.Kd.C YtebjiimlcnmfpaaGreatW.PrintWords.Kd.string w A l.length l) (hn : l.length ≤ 140737488351232) : Sl kStr w A l.length l := by
  have := sl_of YtebjiimlcnmfpaaGreatW.PrintWords.Kd.string (fun x => [.string x]) (fun h => h) kStr (fun x => x) rfl (by decide) (fun _ _ => rfl) h hn
  simpa using this
theorem app_strs {W : World} {base : Nat} {v : Value} {pre : List ByteArray} (hown : W.ownsRow base 9 1 v pre.length (pre.flatMap strCs)) (hbase : base ≤ W.heap.size) {A : Option Addr} {n : Nat} {l : List ByteArray} (hN : Sl kStr W A n l) (c : Nat) (hb : (pre.length + n) * 16 ≤ 140737488355328) (ty : TypeId) :
    ∃ v' w', (Builtin.append_ #[67, 67] ty #[v, .slice A n c]).run Tryz.prog W = .ok v' w' ∧ w'.ownsRow base 9 1 v' (pre ++ l).length ((pre ++ l).flatMap strCs) ∧ W.grownBy w' v.ownBlock ∧ (v'.ownBlock = v.ownBlock ∨ v'.ownBlock = some W.heap.size) := by
  obtain ⟨i0, hi, hz0, hz1, hz2⟩ := info_parts infoS
  have hl := hN.len
  cases A with
  | none =>
    have hn0 : n = 0 := by
      rcases Nat.eq_zero_or_pos n with h | h
      · exact h
      · obtain ⟨_, _, e, _⟩ := hN.get h; cases e
    subst hn0
    obtain rfl : l = [] := List.eq_nil_of_length_eq_zero hl
    refine ⟨v, W, ?_, by simpa using hown, ⟨rfl, rfl, rfl, Nat.le_refl _, fun _ _ _ => rfl⟩, .inl rfl⟩
    rcases hown.2 with ⟨rfl, h0⟩ | ⟨g, cap, cur, rfl, _, _, hnc, _⟩
    · simp [Builtin.append_, run_underlying Tryz.underlying67, sizeOf, typeInfo, hi, Builtin.lenOf, Builtin.firstCells]
    · simp [Builtin.append_, run_underlying Tryz.underlying67, sizeOf, typeInfo, hi, Builtin.lenOf, Builtin.firstCells, hnc, storeCells]
  | some ad =>
    subst hl
    obtain ⟨v', w', h1, h2, h3, _, h5⟩ := run_append_own_at (P := Tryz.prog) (w := W) base 67 ty 9 i0 _ 1 16 Tryz.underlying67 hi hz0 hz1 hz2 rfl (by decide) v pre.length _ hown ad l.length c (l.flatMap strCs)
      (by rw [s_flat]; simp) (fun j u hj => by
        rw [s_flat, List.getElem?_map] at hj
        obtain ⟨x, hx, rfl⟩ := Option.map_eq_some_iff.1 hj
        have hjl := (List.getElem?_eq_some_iff.1 hx).1
        obtain ⟨b, o, e, hc⟩ := strs_opn hN (by omega)
        cases e
        rw [add_flat]
        have := hc W j (Ext.refl W) hjl
        rw [this]
        unfold knth
        rw [List.getD_eq_getElem?_getD, hx]; rfl) (fun u hu => by
        obtain ⟨x, _, hx⟩ := List.mem_flatMap.1 hu
        simp [strCs] at hx; rcases hx with rfl; rfl) (by unfold maxLen; omega) hb hbase
    refine ⟨v', w', h1, ?_, h3, h5⟩
    rw [List.length_append, List.flatMap_append]
    exact h2
theorem app_str {W : World} {base : Nat} {v : Value} {pre : List ByteArray} (hown : W.ownsRow base 9 1 v pre.length (pre.flatMap strCs)) (hbase : base ≤ W.heap.size) (hb : (pre.length + 1) * 16 ≤ 140737488355328) (ty : TypeId) (x : ByteArray) :
    ∃ v' w', (Builtin.append_ #[67, 67] ty #[v, .slice (some ⟨W.heap.size, 0, none⟩) 1 1]).run Tryz.prog (W.alloc (.cells #[.string x] 9)) = .ok v' w' ∧ w'.ownsRow base 9 1 v' (pre ++ [x]).length ((pre ++ [x]).flatMap strCs) ∧ W.grownBy w' v.ownBlock ∧ (v'.ownBlock = v.ownBlock ∨ ∃ b, v'.ownBlock = some b ∧ W.heap.size ≤ b) := by
  obtain ⟨i0, hi, hz0, hz1, hz2⟩ := info_parts infoS
  exact app_one strCs (fun _ => rfl) (fun x u hu => by simp [strCs] at hu; rcases hu with rfl; rfl) 67 ty 9 i0 _ 16 Tryz.underlying67 hi hz0 hz1 hz2 rfl (by decide) (by decide) hown hbase hb x

/-- A row of one's own, cut. -/
theorem own_cutsS {W : World} {base : Nat} {v : Value} {l : List ByteArray} (h : W.ownsRow base 9 1 v l.length (l.flatMap strCs)) (hb : l.length ≤ 140737488351232) {p : Nat} (hp : p ≤ l.length) : ∃ A1 c1 A2 c2,
    (∀ V, (Instr.slice 67 v none (some (.int .i64 (p : Int))) none).run Tryz.prog V = .ok (.slice A1 p c1) V) ∧ (∀ V, (Instr.slice 67 v (some (.int .i64 (p : Int))) none none).run Tryz.prog V = .ok (.slice A2 (l.length - p) c2) V) ∧ Sl kStr W A1 p (l.take p) ∧ Sl kStr W A2 (l.length - p) (l.drop p) := by
  obtain ⟨i0, hi, hz0, hz1, hz2⟩ := info_parts infoS
  have h0 := h
  rcases h.2 with ⟨rfl, hn⟩ | ⟨g, cap, cur, rfl, hg, hh, hnc, hm, hs, ht⟩
  · obtain rfl : l = [] := List.eq_nil_of_length_eq_zero hn
    obtain rfl : p = 0 := by simpa using hp
    refine ⟨none, 0, none, 0, fun V => ?_, fun V => ?_, Sl.nil _ _ _, Sl.nil _ _ _⟩
    · simp [Instr.slice, run_underlying Tryz.underlying67, Instr.sliceBounds, run_sliceBound, sizeOf, typeInfo, hi, hz1]
    · simp [Instr.slice, run_underlying Tryz.underlying67, Instr.sliceBounds, run_sliceBound, sizeOf, typeInfo, hi, hz1]
  · obtain ⟨A', c', e, hN⟩ := sl_of_own (sz := 1) (z := ByteArray.empty) (c := strCs) (hc := fun _ => rfl) (l := l) h0 hb
    injection e with e1 _ e2
    subst e1; subst e2
    have hlo : Sl kStr W (some ⟨g, 0, none⟩) p (l.take p) := Sl.take (k := kStr) hN hp
    have hhi : ∀ q, (p < l.length → q = p) → Sl kStr W (some ⟨g, q, none⟩) (l.length - p) (l.drop p) := fun q hq => by
      refine ⟨by simp, by omega, fun hpos => ⟨g, q, rfl, fun j hj => ?_⟩⟩
      have hq := hq (by omega)
      subst hq
      obtain ⟨b, o, e, hc⟩ := hN.get (by omega)
      cases e
      obtain ⟨cs, hR, hc2⟩ := hc (q + j) (by omega)
      refine ⟨cs, ?_, fun r u hu => ?_⟩
      · have e3 : (l.drop q).getD j kStr.z = l.getD (q + j) kStr.z := by simp only [List.getD_eq_getElem?_getD, List.getElem?_drop]
        rw [e3]; exact hR
      · have h3 : W.cell? ⟨g, 0 + (q + j) * 1 + r, none⟩ = some u := hc2 r u hu
        show W.cell? ⟨g, q + j * 1 + r, none⟩ = some u
        rw [show q + j * 1 + r = 0 + (q + j) * 1 + r by omega]
        exact h3
    by_cases hpc : cap = p
    · refine ⟨some ⟨g, 0, none⟩, cap, some ⟨g, 0, none⟩, 0, fun V => ?_, fun V => ?_, hlo, hhi 0 (fun z => by omega)⟩
      · simp [Instr.slice, run_underlying Tryz.underlying67, Instr.sliceBounds, run_sliceBound, sizeOf, typeInfo, hi, hz1, hnc, hp, Addr.add_zero', show p ≤ cap by omega]
      · simp [Instr.slice, run_underlying Tryz.underlying67, Instr.sliceBounds, run_sliceBound, sizeOf, typeInfo, hi, hz1, hnc, hp, hpc, show p ≤ cap by omega]
        try omega
    · refine ⟨some ⟨g, 0, none⟩, cap, some ⟨g, p, none⟩, cap - p, fun V => ?_, fun V => ?_, hlo, hhi p (fun _ => rfl)⟩
      · simp [Instr.slice, run_underlying Tryz.underlying67, Instr.sliceBounds, run_sliceBound, sizeOf, typeInfo, hi, hz1, hnc, hp, Addr.add_zero', show p ≤ cap by omega, show ¬ cap = 0 by omega]
      · simp [Instr.slice, run_underlying Tryz.underlying67, Instr.sliceBounds, run_sliceBound, sizeOf, typeInfo, hi, hz1, hnc, hp, add_flat, show p ≤ cap by omega, hpc]
theorem ins_end {x : List UInt8} {R : List (List UInt8)} {p : Nat} (hp : p ≤ R.length) (h : ∀ q, ∀ h : q < R.length, q < p → R[q] < x) (h2 : ∀ z : p < R.length, x < R[p]) : insKey x R = R.take p ++ [x] ++ R.drop p := by
  rw [insKey_pass x R p h, List.append_assoc]
  congr 1
  by_cases z : p < R.length
  · rw [List.drop_eq_getElem_cons z]
    show (if x < R[p] then _ else if _ = _ then _ else _) = _
    rw [if_pos (h2 z)]; rfl
  · rw [List.drop_of_length_le (by omega)]; rfl
theorem ins_same {x : List UInt8} {R : List (List UInt8)} {p : Nat} (z : p < R.length) (h : ∀ q, ∀ h : q < R.length, q < p → R[q] < x) (h2 : R[p] = x) : insKey x R = R := by
  rw [insKey_pass x R p h]
  conv => rhs; rw [← List.take_append_drop p R]
  congr 1
  rw [List.drop_eq_getElem_cons z]
  show (if x < R[p] then _ else if x = R[p] then _ else _) = _
  rw [if_neg (by rw [h2]; exact List.lt_irrefl _), if_pos h2.symm]
/-- How far the keys are. -/
def KInv (xs : List S50) (k : Nat) (R : List (List UInt8)) : Prop := keysFold R (Go.Proofs.YtebjiimlcnmfpaaGreat.keyBytes ((evs xs).drop k)) = keysSpec (evs xs) ∧ R.length ≤ k ∧ ∀ y ∈ R, y.length ≤ 9223372036854775807
theorem KInv.none {xs : List S50} {k : Nat} {R : List (List UInt8)} (h : KInv xs k R) (hk : k < xs.length) (q : ¬ keyed (nth (evs xs) k) = true) : KInv xs (k + 1) R := by
  obtain ⟨h1, h2, h3⟩ := h
  have hi' : k < (evs xs).length := by rw [evs_len]; exact hk
  rw [List.drop_eq_getElem_cons hi', ← nth_lt hi'] at h1
  refine ⟨?_, by omega, h3⟩
  rw [← h1]; unfold Go.Proofs.YtebjiimlcnmfpaaGreat.keyBytes; rw [List.filter_cons, if_neg q]
theorem ins_len (x : List UInt8) (R : List (List UInt8)) : (insKey x R).length ≤ R.length + 1 := by
  induction R with
  | nil => simp [insKey]
  | cons y r ih =>
    unfold insKey
    split
    · simp
    · split
      · simp
      · simp; omega
theorem KInv.some {xs : List S50} {k : Nat} {R : List (List UInt8)} (h : KInv xs k R) (hk : k < xs.length) (hS : ∀ y ∈ xs, y.f2.size ≤ 9223372036854775807) (q : keyed (nth (evs xs) k) = true) : KInv xs (k + 1) (insKey (nth (evs xs) k).key.data.toList R) := by
  obtain ⟨h1, h2, h3⟩ := h
  have hi' : k < (evs xs).length := by rw [evs_len]; exact hk
  rw [List.drop_eq_getElem_cons hi', ← nth_lt hi'] at h1
  have hkey : (nth (evs xs) k).key.data.toList.length ≤ 9223372036854775807 := by
    have h1 : nth (evs xs) k ∈ evs xs := by rw [nth_lt hi']; exact List.getElem_mem _
    obtain ⟨y, hy, he⟩ := List.mem_map.1 h1
    have := hS y hy
    rw [← he]
    simpa [toEv] using this
  refine ⟨?_, by have := ins_len (nth (evs xs) k).key.data.toList R; omega, fun y hy => ?_⟩
  · rw [← h1]; unfold Go.Proofs.YtebjiimlcnmfpaaGreat.keyBytes; rw [List.filter_cons, if_pos q]; rfl
  · rcases (mem_insKey _ _ _).1 hy with rfl | hy
    · exact hkey
    · exact h3 y hy
theorem kd_ways (kd : Int) : kd = 2 ∨ kd = 3 ∨ ((kd != 2) = true ∧ (kd != 3) = true) := by
  simp only [bne_iff_ne]; omega
set_option maxRecDepth 100000 in
set_option maxHeartbeats 16000000 in
theorem r08_keys (w : World) (A : Option Addr) (c : Nat) (xs : List S50) (hC : YtebjiimlcnmfpaaGreatW.PrintWords.Kd.C k50 w A xs.length xs) (hn : xs.length ≤ 300) (hS : ∀ y ∈ xs, y.f2.size ≤ 9223372036854775807) :
    Calls Tryz.prog 49 #[.slice A xs.length c] w fun e w' => ∃ v, e = .returned v ∧ w'.ownsRow w.heap.size 9 1 v ((keysSpec (evs xs)).map toBA).length (((keysSpec (evs xs)).map toBA).flatMap strCs) ∧ Ext w w' := by
  have hX := Ext.refl w
  have HE := hid (evs_of hC (by omega))
  have HSS := hid hS
  clear hC hS
  go_enter Tryz.func49, Tryz.ntmps49
  go_wp2
  go_loopg [3, 4] xs.length (fun n_ out i W => ∃ (k : Nat) (R : List (List UInt8)), k ≤ xs.length ∧ xs.length ≤ n_ + k ∧ i = .int .i64 k ∧ Ext w W ∧ W.ownsRow w.heap.size 9 1 out (R.map toBA).length ((R.map toBA).flatMap strCs) ∧ Hid (KInv xs k R))
  case atStart => exact ⟨0, [], by omega, by omega, rfl, hX, World.ownsRow_nil _ _ _ _, hid ⟨rfl, by simp, by simp⟩⟩
  case round =>
    obtain ⟨k, R, hk, hgk, rfl, hW, hown, hb⟩ := hrel
    by_cases hlt : k < xs.length
    case neg =>
      obtain rfl : k = xs.length := by omega
      have hfin := hid (show R = keysSpec (evs xs) from by
        have := hb.out.1
        rw [List.drop_of_length_le (by rw [evs_len]; omega)] at this
        exact this)
      rw [hfin.out] at hown
      have HO := hid hown
      clear hb hown hfin
      go_wp2
      go_ret
      exact ⟨_, rfl, HO.out, hW⟩
    obtain ⟨be, oe, rfl, q0, _, q2, _⟩ := HE.out.opn (by omega)
    have Q2 := hid q2
    have c0 := q0 wr k hW hlt
    have c2 := q2 wr k hW hlt
    clear q0 q2
    obtain ⟨ev, hev⟩ : ∃ x, nth (evs xs) k = x := ⟨_, rfl⟩
    rw [hev] at c0 c2
    obtain ⟨kd, hkd⟩ : ∃ x, ev.kind = x := ⟨_, rfl⟩
    obtain ⟨ky, hky⟩ : ∃ x, ev.key = x := ⟨_, rfl⟩
    rw [hkd] at c0
    rw [hky] at c2
    have hbl := hb.out.2.1
    obtain ⟨A0, d0, rfl, hd0, hC0⟩ := ownS_C hown
    have HEV := hid (And.intro hev (And.intro hkd hky))
    have D0 := hid hC0
    have HO := hid hown
    clear hev hkd hky hC0 hown
    rcases kd_ways kd with rfl | rfl | ⟨g1, g2⟩
    case' inl => skip
    case inr.inr =>
      have hb2 := hid (hb.out.none hlt (by
        obtain ⟨e1, e2, e3⟩ := HEV.out
        rw [e1]; unfold keyed; rw [e2]
        simp only [bne_iff_ne] at g1 g2
        simp [g1, g2]))
      go_wp2
      go_roundg (xs.length - (k + 1))
      case measure => omega
      case rel => exact ⟨k + 1, R, by omega, by omega, by go_num, hW, HO.out, hb2⟩
    all_goals
      have hb2 := hid (hb.out.some hlt HSS.out (by
        obtain ⟨e1, e2, e3⟩ := HEV.out
        rw [e1]; unfold keyed; rw [e2]
        rfl))
      have hmax := hid hb.out.2.2
      obtain ⟨e1, _, e3⟩ := HEV.out
      rw [e1, e3] at hb2
      have HE3 := hid (show (nth (evs xs) k).key = ky from by rw [e1, e3])
      clear e1 e3 HEV
      obtain ⟨L, hL⟩ : ∃ L, R.map toBA = L := ⟨_, rfl⟩
      have hLn : L.length = R.length := by rw [← hL]; simp
      have HLg := hid (show ∀ q, ∀ h : q < R.length, knth L q = toBA R[q] from fun q h => by
        rw [← hL]; unfold knth; rw [List.getD_eq_getElem?_getD, List.getElem?_map, List.getElem?_eq_getElem h]; rfl)
      rw [hL] at D0 HO hd0 ⊢
      have HL := hid hL
      have HLn := hid hLn
      have hb30 : L.length ≤ 300 := by omega
      clear hL hLn hbl
      go_wp2
      go_loopg [5] L.length (fun n_ i W => ∃ (p : Nat), p ≤ L.length ∧ L.length ≤ n_ + p ∧ i = .int .i64 p ∧ Ext wr W ∧ Hid (∀ q, ∀ h : q < R.length, q < p → R[q] < ky.data.toList))
      case atStart => exact ⟨0, by omega, by omega, rfl, Ext.refl _, hid (fun q h hq => by omega)⟩
      case round =>
        clear c0 c2
        obtain ⟨p, hp, hgp, rfl, hW2, hlow⟩ := hrel
        have hWW := hW.trans hW2
        have c2 := Q2.out wr k hWW hlt
        rw [HE3.out] at c2
        obtain ⟨B1, d1, B2, d2, hc1, hc2, hN1, hN2⟩ := own_cutsS HO.out (by omega) hp
        have NL := hid (Sl.take (k := kStr) (strs_of D0.out (by omega)) hp)
        have N2 := hid hN2
        have HC2 := hid hc2
        clear hc1 hc2 hN1 hN2
        have HBL := hid (show L.length ≤ 300 ∧ p ≤ L.length ∧ k < xs.length from ⟨by omega, hp, hlt⟩)
        have hex : (p < L.length) ∨ (¬ p < L.length) := by omega
        rcases hex with hpl | hpl
        case' inl =>
          obtain ⟨ba, oa, e, qa⟩ := strs_opn (strs_of D0.out (by omega)) (by omega)
          subst e
          have a0 := qa wr p hW2 hpl
          have hpR : p < R.length := by rw [← HLn.out]; exact hpl
          obtain ⟨y, hy⟩ : ∃ y, knth L p = y := ⟨_, rfl⟩
          rw [hy] at a0
          have hyR : toBA R[p] = y := by rw [← hy]; exact (HLg.out p hpR).symm
          have hyl : y.data.toList = R[p] := by rw [← hyR]; rfl
          obtain ⟨kl, hkl⟩ := (less_is y ky (by have := hmax.out _ (List.getElem_mem hpR); rw [← hyl] at this; simpa using this)).rounds
          have HY := hid hyl
          clear qa hy hyR hyl
          by_cases hlt2 : y.data.toList < ky.data.toList
          case pos =>
            rw [decide_eq_true hlt2] at hkl
            have hlow2 := hid (show ∀ q, ∀ h : q < R.length, q < p + 1 → R[q] < ky.data.toList from fun q h hq => by
              by_cases e : q = p
              · subst e; rw [← HY.out]; exact hlt2
              · exact hlow.out q h (by omega))
            clear hlt2
            go_wp2
            go_quiet ((go_at_call 91; (with_reducible refine (cartoucheref01_Less.calls kl y ky _ _ hkl).mono ?_); rintro e w5 ⟨rfl, ⟨nd, rfl⟩⟩; (try first | exact ⟨rfl, _, World.drewN_drewN _ _ _⟩ | exact ⟨rfl, _, Eq.trans (World.drewN_drewN _ _ _) (congrArg (World.drewN _) (Nat.add_assoc _ _ _))⟩)))
            go_wp2
            go_roundg (L.length - (p + 1))
            case measure => omega
            case rel => exact ⟨p + 1, by omega, by omega, by go_num, hW2.drewN _, hlow2⟩
          rw [decide_eq_false hlt2] at hkl
          have HT := hid hlt2
          clear hlt2
          by_cases hyk : y = ky
          case pos =>
            have hsame := hid (show KInv xs (k + 1) R from by
              have := hb2.out
              rwa [ins_same hpR hlow.out (by rw [← HY.out, hyk])] at this)
            subst hyk
            go_wp2
            go_quiet ((go_at_call 91; (with_reducible refine (cartoucheref01_Less.calls kl y _ _ _ hkl).mono ?_); rintro e w5 ⟨rfl, ⟨nd, rfl⟩⟩; (try first | exact ⟨rfl, _, World.drewN_drewN _ _ _⟩ | exact ⟨rfl, _, Eq.trans (World.drewN_drewN _ _ _) (congrArg (World.drewN _) (Nat.add_assoc _ _ _))⟩)))
            go_wp2
            go_quiet (fail)
            go_wp2
            go_roundg (xs.length - (k + 1))
            case measure => omega
            case rel => exact ⟨k + 1, R, by omega, by omega, by go_num, hWW.drewN _, by rw [HL.out]; exact own_ext HO.out hW.le (hW2.drewN _), hsame⟩
          have hne : (y.toList == ky.toList) = false := by
            refine beq_eq_false_iff_ne.2 (fun e => hyk ?_)
            rw [ba_list] at e
            exact e
          have hins := hid (show insKey ky.data.toList R = R.take p ++ [ky.data.toList] ++ R.drop p from ins_end (by omega) hlow.out (fun z => by rw [← HY.out]; exact lt_tri HT.out (fun e => hyk (by rw [← toBA_self y, e, toBA_self]))))
          have hA0 := hid (fun W (h : Ext wr W) => h.cell a0)
          go_wp2
          go_quiet ((go_at_call 91; (with_reducible refine (cartoucheref01_Less.calls kl y ky _ _ hkl).mono ?_); rintro e w5 ⟨rfl, ⟨nd, rfl⟩⟩; (try first | exact ⟨rfl, _, World.drewN_drewN _ _ _⟩ | exact ⟨rfl, _, Eq.trans (World.drewN_drewN _ _ _) (congrArg (World.drewN _) (Nat.add_assoc _ _ _))⟩)))
          obtain ⟨wq, hwq⟩ : ∃ W, wr.drewN nq = W := ⟨_, rfl⟩
          rw [hwq]
          have hWq : Ext wr wq := by rw [← hwq]; exact (Ext.refl wr).drewN nq
          clear hwq hkl c2 a0
          have a0 := hA0.out wq hWq
          have c2 := Q2.out wq k (hWW.trans hWq) hlt
          rw [HE3.out] at c2
          go_wp2
          go_quiet (fail)
        case' inr =>
          have hins := hid (show insKey ky.data.toList R = R.take p ++ [ky.data.toList] ++ R.drop p from ins_end (by have := HLn.out; omega) hlow.out (fun z => by have := HLn.out; omega))
          go_wp2
          go_quiet (fail)
          obtain ⟨wq, hwq⟩ : ∃ W, wr.drewN nq = W := ⟨_, rfl⟩
          rw [hwq]
          have hWq : Ext wr wq := by rw [← hwq]; exact (Ext.refl wr).drewN nq
          clear hwq c2
          have c2 := Q2.out wq k (hWW.trans hWq) hlt
          rw [HE3.out] at c2
          go_wp2
          go_quiet (fail)
        all_goals
          obtain ⟨W1, hW1⟩ : ∃ W, (wq.drewN nq).alloc (.cells #[] 9) = W := ⟨_, rfl⟩
          have own0 : W1.ownsRow wq.heap.size 9 1 (.slice (some ⟨wq.heap.size, 0, none⟩) 0 0) ([] : List ByteArray).length (([] : List ByteArray).flatMap strCs) := by
            rw [← hW1]
            exact ⟨rfl, .inr ⟨wq.heap.size, 0, #[], rfl, Nat.le_refl _, heap_alloc_new (wq.drewN nq) _, Nat.le_refl _, by unfold maxLen; omega, rfl, rfl⟩⟩
          have hX1 : Ext wq W1 := by rw [← hW1]; exact ((Ext.refl wq).drewN nq).alloc _
          obtain ⟨v1, w1, hrun, hown1, hgr1, _⟩ := app_strs own0 hX1.le (NL.out.ext ((hW2.trans hWq).trans hX1)) d0 (by have := HBL.out; simp; omega) 67
          rw [List.nil_append] at hown1
          rw [← hW1] at hrun
          have hY1 : Ext wq w1 := Ext.grown hX1 hgr1 (own_block own0)
          have s1 := Q2.out w1 k ((hWW.trans hWq).trans hY1) hlt
          rw [HE3.out] at s1
          obtain ⟨v2, w2, hrun2, hown2, hgr2, _⟩ := app_str hown1 hY1.le (by have := HBL.out; rw [List.length_take]; omega) 67 ky
          have hY2 : Ext wq w2 := Ext.grown hY1 hgr2 (own_block hown1)
          obtain ⟨v3, w3, hrun3, hown3, hgr3, _⟩ := app_strs hown2 hY2.le (N2.out.ext ((hW2.trans hWq).trans hY2)) d2 (by have := HBL.out; simp; omega) 67
          have hY3 : Ext wq w3 := Ext.grown hY2 hgr3 (own_block hown2)
          have HO3 := hid (own_base hown3 (hWW.trans hWq).le)
          have hc2 := HC2.out w2
          have hfin := hid (show (insKey ky.data.toList R).map toBA = L.take p ++ [ky] ++ L.drop p from by
            rw [hins.out, ← HL.out]
            simp only [List.map_append, List.map_cons, List.map_nil, List.map_take, List.map_drop, toBA_self])
          clear own0 hgr1 hgr2 hgr3 hX1 hW1 hown1 hown2 hown3 c2
          try clear a0
          go_wp2
          go_roundg (xs.length - (k + 1))
          case measure => omega
          case rel => exact ⟨k + 1, insKey ky.data.toList R, by omega, by omega, by go_num, (hWW.trans hWq).trans hY3, by rw [hfin.out]; exact HO3.out, hb2⟩
def cartoucheref08_Keys.f (l0 : List (S50)) : Option (List ByteArray) := if l0.length ≤ 300 ∧ ∀ y ∈ l0, y.f2.size ≤ 9223372036854775807 then some ((keysSpec (evs l0)).map toBA) else none
theorem cartoucheref08_Keys.calls (A0 : Option Addr) (c0 : Nat) (l0 : List (S50)) (r : List ByteArray) (w : World) (hr0 : YtebjiimlcnmfpaaGreatW.PrintWords.Kd.C k50 w A0 l0.length l0) (hc0 : l0.length ≤ c0) (h : cartoucheref08_Keys.f l0 = some r) :
    Calls Tryz.prog 49 #[.slice A0 l0.length c0] w fun e w' => ∃ v0_ : Value, e = .returned (v0_) ∧ YtebjiimlcnmfpaaGreatW.PrintWords.Kd.R YtebjiimlcnmfpaaGreatW.PrintWords.Kd.string 9 w' w.heap.size (fun _ => True) v0_ r ∧ Below w.heap.size w w' := by
  unfold cartoucheref08_Keys.f at h
  split at h
  · rename_i hn
    injection h with h
    refine (r08_keys w A0 c0 l0 hr0 hn.1 hn.2).mono fun e w' ⟨v, he, ho, hx⟩ => ⟨v, he, ?_, hx⟩
    rw [h] at ho
    have := r_of YtebjiimlcnmfpaaGreatW.PrintWords.Kd.string 9 strCs (fun x => x) (fun _ _ _ _ => rfl) (fun _ => rfl) ho
    simpa using this
  · cases h
theorem rkeys (xs : List S50) (hn : xs.length ≤ 300) (hk : ∀ y ∈ xs, y.f2.size ≤ 9223372036854775807) : Evt (fun _ => cartoucheref08_Keys.f xs) ((keysSpec (evs xs)).map toBA) := Evt.now fun _ => by
  unfold cartoucheref08_Keys.f
  rw [if_pos ⟨hn, hk⟩]
end
end Go.Proofs.YtebjiimlcnmfpaaGreatPr
