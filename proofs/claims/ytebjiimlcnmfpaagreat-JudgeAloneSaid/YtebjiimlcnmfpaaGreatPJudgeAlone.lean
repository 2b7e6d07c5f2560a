/-
  The law JudgeAlone, walked by hand: transactions that follow one another, each whole, and only write, are accepted at both levels.
-/
import Derived.Test.YtebjiimlcnmfpaaGreatPrCartouchelaw12Few
import Derived.Test.YtebjiimlcnmfpaaGreatS33
import Derived.Test.YtebjiimlcnmfpaaGreatS38
import Derived.Test.YtebjiimlcnmfpaaGreatS14
import Derived.Test.YtebjiimlcnmfpaaGreatB12
import Derived.Test.YtebjiimlcnmfpaaGreatB29
set_option linter.unusedVariables false
set_option linter.unusedSimpArgs false
namespace Go.Proofs.YtebjiimlcnmfpaaGreatPr
open Go.Proofs.YtebjiimlcnmfpaaGreat
section
open Go Go.RowKit Go.Proofs Go.Shelf
set_option linter.unusedSimpArgs false
set_option linter.unusedVariables false
attribute [local go_sem] Ext.alloc Ext.alloc2 Ext.alloc3 Ext.alloc4 Ext.drewN_alloc Ext.drewN_alloc2 Ext.drew_alloc Ext.drew Ext.drewN toList_beq
attribute [-go_sem] Builtin.append_

theorem infoEv : (Tryz.prog.info? 50).map (fun i => (i.zero, i.size, i.bytes)) = some (some (.agg #[.int .i64 0, .int .i64 0, .string ⟨#[]⟩, .string ⟨#[]⟩]), 4, 48) := by kernel_rfl
theorem app_ev {W : World} {base : Nat} {v : Value} {pre : List Ev} (hown : W.ownsRow base 50 4 v pre.length (pre.flatMap Ev.cs)) (hbase : base ≤ W.heap.size) (hb : (pre.length + 1) * 48 ≤ 140737488355328) (ty : TypeId) (x : Ev) :
    ∃ v' w', (Builtin.append_ #[22, 22] ty #[v, .slice (some ⟨W.heap.size, 0, none⟩) 1 1]).run Tryz.prog (W.alloc (.cells #[.int .i64 x.kind, .int .i64 x.txn, .string x.key, .string x.val] 50)) = .ok v' w' ∧ w'.ownsRow base 50 4 v' (pre ++ [x]).length ((pre ++ [x]).flatMap Ev.cs) ∧ W.grownBy w' v.ownBlock ∧ (v'.ownBlock = v.ownBlock ∨ ∃ b, v'.ownBlock = some b ∧ W.heap.size ≤ b) := by
  obtain ⟨i0, hi, hz0, hz1, hz2⟩ := info_parts infoEv
  exact app_one Ev.cs (fun _ => rfl) (fun x u hu => by simp [Ev.cs] at hu; rcases hu with rfl | rfl | rfl | rfl <;> rfl) 22 ty 50 i0 _ 48 Tryz.underlying22 hi hz0 hz1 hz2 rfl (by decide) (by decide) hown hbase hb x
def ofEv (x : Ev) : S50 := ⟨x.kind, x.txn, x.key, x.val⟩
theorem evs_back (l : List S50) : (evs l).map ofEv = l := by
  unfold evs
  rw [List.map_map]
  exact List.map_id _
/-- A row of events of one's own, as it is read. -/
theorem ownEv_C {w : World} {base : Nat} {v : Value} {l : List S50} (h : w.ownsRow base 50 4 v (evs l).length ((evs l).flatMap Ev.cs)) : ∃ A c, v = .slice A l.length c ∧ l.length ≤ c ∧ YtebjiimlcnmfpaaGreatW.PrintWords.Kd.C k50 w A l.length l := by
  have := r_of k50 50 Ev.cs ofEv (fun w base ok y => k50_mkM w base ok (ofEv y)) (fun _ => rfl) h
  rw [evs_back] at this
  exact YtebjiimlcnmfpaaGreatW.PrintWords.Kd.N_reads (YtebjiimlcnmfpaaGreatW.PrintWords.Kd.R_N this)
def lnth (l : List Life) (i : Nat) : Life := l.getD i Life.z
theorem life_opn {w : World} {A : Option Addr} {l : List Life} (h : YtebjiimlcnmfpaaGreatW.PrintWords.Kd.C k52 w A (l.map ofLife).length (l.map ofLife)) (hn : l.length ≤ 140737488351232) (h0 : 0 < l.length) : ∃ b o, A = some ⟨b, o, none⟩ ∧ ∀ W i, Ext w W → i < l.length → W.cell? ⟨b, o + i * 4, none⟩ = some (.int .i64 (lnth l i).txn) := by
  have hs : Sl kLife w A (l.map ofLife).length ((l.map ofLife).map (fun x => (⟨x.f0, x.f1, x.f2, x.f3⟩ : Life))) := sl_of k52 (fun x => [.int .i64 x.f0, .int .i64 x.f1, .int .i64 x.f2, .bool x.f3]) (fun h => k52_open h) kLife (fun x => ⟨x.f0, x.f1, x.f2, x.f3⟩) rfl (by decide) (fun _ _ => rfl) h (by rw [List.length_map]; exact hn)
  have e : (l.map ofLife).map (fun x => (⟨x.f0, x.f1, x.f2, x.f3⟩ : Life)) = l := by rw [List.map_map]; exact List.map_id _
  rw [e, List.length_map] at hs
  obtain ⟨b, o, e, hg⟩ := hs.get h0
  refine ⟨b, o, e, fun W i hx hi => ?_⟩
  obtain ⟨cs, hR, hc⟩ := hg i hi
  have hcs : cs = (lnth l i).cs := hR
  have := hc 0 (.int .i64 (lnth l i).txn) (by rw [hcs]; rfl)
  exact hx.cell this
def pickE (t : Int) (y : S50) : List S50 := if aloneB t y = true then [y] else []
theorem pick_take (t : Int) (l : List S50) {n : Nat} (h : n < l.length) : (l.take (n + 1)).filter (aloneB t) = (l.take n).filter (aloneB t) ++ pickE t l[n] := by
  rw [List.take_succ_eq_append_getElem h, List.filter_append]
  congr 1
  unfold pickE
  rw [List.filter_cons]
  rfl
theorem alone_len (xs : List S50) : ∀ L : List Life, (L.flatMap (fun x => xs.filter (aloneB x.txn))).length ≤ L.length * xs.length
  | [] => by simp
  | x :: r => by
    have ih := alone_len xs r
    have := List.length_filter_le (aloneB x.txn) xs
    rw [List.flatMap_cons, List.length_append, List.length_cons, Nat.succ_mul]
    omega
set_option maxRecDepth 100000 in
set_option maxHeartbeats 16000000 in
theorem h_JudgeAlone (w : World) (A : Option Addr) (cap : Nat) (xs : List S50) (hC : YtebjiimlcnmfpaaGreatW.PrintWords.Kd.C k50 w A xs.length xs) (hcap : xs.length ≤ cap) (hS : ∀ y ∈ xs, EvS y) (hl : xs.length * 48 ≤ 140737488351232) :
    Calls Tryz.prog 7 #[.slice A xs.length cap] w fun e w' => e = .returned (.bool true) ∧ Ext w w' := by
  have hsh : cartouchelaw12_shown.f = some true := rfl
  have hfw : Hid (cartouchelaw12_few.f xs = some (decide ((xs.length : Int) ≤ 80))) := hid rfl
  have hF : Hid (cartoucheref08_Formed.f xs = some ((formed (evs xs)).1, (formed (evs xs)).2)) := hid (by unfold cartoucheref08_Formed.f; rw [if_pos (by omega)])
  have hX := Ext.refl w
  have HC := hid hC
  have HE := hid (evs_of hC (by omega))
  have HS := hid hS
  clear hC hS
  obtain ⟨g1, hg1⟩ : ∃ g, (formed (evs xs)).1 = g := ⟨_, rfl⟩
  obtain ⟨g2, hg2⟩ : ∃ g, (formed (evs xs)).2 = g := ⟨_, rfl⟩
  rw [hg1, hg2] at hF
  have HG := hid hg2
  clear hg1 hg2
  go_enter Tryz.func7, Tryz.ntmps7
  by_cases hgo : (xs.length : Int) ≤ 80 ∧ g2 = 0
  case neg =>
    have hw : decide ((xs.length : Int) ≤ 80) = false ∨ (decide ((xs.length : Int) ≤ 80) = true ∧ (g2 != 0) = true) := by
      simp only [decide_eq_false_iff_not, decide_eq_true_eq, bne_iff_ne]; omega
    clear hgo HG
    obtain ⟨q, hq⟩ : ∃ q, decide ((xs.length : Int) ≤ 80) = q := ⟨_, rfl⟩
    rw [hq] at hfw hw
    clear hq
    rcases hw with rfl | ⟨rfl, h2⟩
    all_goals
      go_wp2_with first
        | (go_at_call 28; (with_reducible refine (cartouchelaw12_shown.calls true _ hsh).mono ?_); rintro e1 w1 ⟨rfl, hx1⟩; have hY1 : Ext w w1 := hx1)
        | (go_at_call 31; (with_reducible refine (cartouchelaw12_few.calls _ _ xs _ _ (C_go HC.out hY1) hcap hfw.out).mono ?_); rintro e2 w2 ⟨rfl, ⟨⟨nd, rfl⟩⟩⟩; have hY2 : Ext w (w1.drewN nd) := hY1.drewN nd)
        | (go_at_call 32; (with_reducible refine (cartoucheref08_Formed.calls A cap xs _ _ _ (C_go HC.out hY2) hcap hF.out).mono ?_); rintro e3 w3 ⟨rfl, hx3⟩; have hY3 : Ext w w3 := hY2.trans hx3)
      go_ret
      exact ⟨rfl, hY3⟩
  obtain ⟨h80, rfl⟩ := hgo
  rw [decide_eq_true h80] at hfw
  have h80' : xs.length ≤ 80 := by omega
  obtain ⟨kl, hkl⟩ := (rlv xs (by omega)).rounds
  obtain ⟨_, _, hal⟩ := alone_is HG.out
  have hAS : ∀ y ∈ aloneS xs, EvS y := fun y hy => HS.out y (alone_mem hy)
  obtain ⟨ha1, hz1⟩ := alone_ok HG.out (lev := 1) (.inl rfl)
  obtain ⟨ha2, hz2⟩ := alone_ok HG.out (lev := 2) (.inr rfl)
  have hJ1 := hid (judge_f (xs := aloneS xs) (lev := 1) (by omega) hAS)
  have hJ2 := hid (judge_f (xs := aloneS xs) (lev := 2) (by omega) hAS)
  have hJa := hid (And.intro ha1 (And.intro hz1 (And.intro ha2 hz2)))
  have hfin := hid (show aloneS xs = (lives (evs xs)).flatMap (fun x => xs.filter (aloneB x.txn)) from rfl)
  obtain ⟨L, hL⟩ : ∃ L, lives (evs xs) = L := ⟨_, rfl⟩
  have hLl : L.length ≤ 80 := by
    have h1 : ((lives (evs xs)).map Life.txn).length ≤ _ := (lives_txns (evs xs)).length_le_of_subset (l₂ := (evs xs).map Ev.txn) (fun t ht => by
      obtain ⟨x, hx, rfl⟩ := List.mem_map.1 ht
      obtain ⟨j, hj, h1, h2, _⟩ := mem_lives hx
      obtain ⟨j', _, _, _, hx'⟩ := (mem_livesFrom (evs xs) _ _ x).1 hx
      have e1 : x.txn = (nth (evs xs) j').txn := by rw [hx']; unfold lifeOf; split <;> rfl
      rw [e1]
      refine List.mem_map.2 ⟨nth (evs xs) j', ?_, rfl⟩
      have hj' : j' < (evs xs).length := by omega
      rw [nth_lt hj']
      exact List.getElem_mem _)
    rw [List.length_map, List.length_map, evs_len, hL] at h1
    omega
  rw [hL] at hkl hfin
  have hLm : (L.map ofLife).length = L.length := List.length_map ..
  clear hL hAS ha1 hz1 ha2 hz2
  generalize hal2 : aloneS xs = al at *
  clear hal2
  go_wp2_with first
    | (go_at_call 28; (with_reducible refine (cartouchelaw12_shown.calls true _ hsh).mono ?_); rintro e1 w1 ⟨rfl, hx1⟩; have hY1 : Ext w w1 := hx1)
    | (go_at_call 31; (with_reducible refine (cartouchelaw12_few.calls _ _ xs _ _ (C_go HC.out hY1) hcap hfw.out).mono ?_); rintro e2 w2 ⟨rfl, ⟨⟨nd, rfl⟩⟩⟩; have hY2 : Ext w (w1.drewN nd) := hY1.drewN nd)
    | (go_at_call 32; (with_reducible refine (cartoucheref08_Formed.calls A cap xs _ _ _ (C_go HC.out hY2) hcap hF.out).mono ?_); rintro e3 w3 ⟨rfl, hx3⟩; have hY3 : Ext w w3 := hY2.trans hx3)
    | (go_at_call 35; (with_reducible refine (cartoucheref08_Lives.calls kl A cap xs _ _ (C_go HC.out hY3) hcap hkl).mono ?_); rintro e4 w4 ⟨v4, rfl, hR4, hx4⟩; have hY4 : Ext w w4 := hY3.trans hx4; obtain ⟨A4, c4, rfl, hc4, hC4⟩ := YtebjiimlcnmfpaaGreatW.PrintWords.Kd.N_reads (YtebjiimlcnmfpaaGreatW.PrintWords.Kd.R_N hR4); have D4 := hid hC4; clear hR4 hC4; rw [hLm])
  clear hkl hfw hF hsh
  go_loopg [7, 9] L.length (fun n_ out i W => ∃ (k : Nat), k ≤ L.length ∧ L.length ≤ n_ + k ∧ i = .int .i64 k ∧ Ext w4 W ∧ W.ownsRow w4.heap.size 50 4 out (evs ((L.take k).flatMap (fun x => xs.filter (aloneB x.txn)))).length ((evs ((L.take k).flatMap (fun x => xs.filter (aloneB x.txn)))).flatMap Ev.cs))
  case atStart => exact ⟨0, by omega, by omega, rfl, Ext.refl _, World.ownsRow_nil _ _ _ _⟩
  case round =>
    obtain ⟨k, hk, hgk, rfl, hW, hown⟩ := hrel
    by_cases hlt : k < L.length
    case neg =>
      obtain rfl : k = L.length := by omega
      rw [List.take_length, ← hfin.out] at hown
      obtain ⟨Ak, ck, rfl, hck, hCk⟩ := ownEv_C hown
      have DK := hid hCk
      obtain ⟨⟨a1, a2, a3, a4, a5, a6, a7, a8⟩, hja⟩ : ∃ q, jS al 1 = q := ⟨_, rfl⟩
      obtain ⟨⟨b1, b2, b3, b4, b5, b6, b7, b8⟩, hjb⟩ : ∃ q, jS al 2 = q := ⟨_, rfl⟩
      rw [hja] at hJ1 hJa
      rw [hjb] at hJ2 hJa
      obtain ⟨e1, e2, e3, e4⟩ : a2 = true ∧ a8 = 0 ∧ b2 = true ∧ b8 = 0 := hJa.out
      subst e1; subst e2; subst e3; subst e4
      have hWw := hY4.trans hW
      clear hown hCk hja hjb hJa
      go_wp2_with first
        | (go_at_call 33; (with_reducible refine (judge_Judge.calls Ak ck al 1 a1 true a3 a4 a5 a6 a7 0 _ DK.out hck hJ1.out).mono ?_); rintro e5 w5 ⟨va, vb, rfl, hRa, hRb, hx5⟩; obtain ⟨Aa, ca, rfl, _, _⟩ := YtebjiimlcnmfpaaGreatW.PrintWords.Kd.N_reads (YtebjiimlcnmfpaaGreatW.PrintWords.Kd.R_N hRa); obtain ⟨Ba, da, rfl, _, _⟩ := YtebjiimlcnmfpaaGreatW.PrintWords.Kd.N_reads (YtebjiimlcnmfpaaGreatW.PrintWords.Kd.R_N hRb); clear hRa hRb; have PA := hid (Blk.new w5 42 #[.int .i64 a1, .bool true, .slice Aa a3.length ca, .int .i64 a4, .int .i64 a5, .int .i64 a6, .slice Ba a7.length da]); have hxa := hid (Ext.alloc (show Ext wr w5 from hx5) (.cells #[.int .i64 a1, .bool true, .slice Aa a3.length ca, .int .i64 a4, .int .i64 a5, .int .i64 a6, .slice Ba a7.length da] 42)); have DK2 := hid (C_go DK.out hxa.out))
        | (go_at_call 33; (with_reducible refine (judge_Judge.calls Ak ck al 2 b1 true b3 b4 b5 b6 b7 0 _ DK2.out hck hJ2.out).mono ?_); rintro e6 w6 ⟨va, vb, rfl, hRa, hRb, hx6⟩; obtain ⟨Ac, cc, rfl, _, _⟩ := YtebjiimlcnmfpaaGreatW.PrintWords.Kd.N_reads (YtebjiimlcnmfpaaGreatW.PrintWords.Kd.R_N hRa); obtain ⟨Bc, dc, rfl, _, _⟩ := YtebjiimlcnmfpaaGreatW.PrintWords.Kd.N_reads (YtebjiimlcnmfpaaGreatW.PrintWords.Kd.R_N hRb); clear hRa hRb; have y1 := (PA.out.ext hx6).cell 1; have hlt5 : w5.heap.size < w6.heap.size := (PA.out.ext hx6).lt; have hX6 : Ext w w6 := hWw.trans (hxa.out.trans hx6))
      go_ret
      exact ⟨rfl, (by repeat (first | assumption | apply Ext.alloc | apply Ext.drewN | apply Ext.drew | (refine Ext.setCell (by simp <;> omega) ?_ _)))⟩
    obtain ⟨b4, o4, rfl, qt⟩ := life_opn D4.out (by omega) (by omega)
    have QT := hid qt
    obtain ⟨t, ht⟩ : ∃ t, (lnth L k).txn = t := ⟨_, rfl⟩
    have HT := hid ht
    clear qt ht
    go_wp2
    go_loopg [7, 10] xs.length (fun n_ out i W => ∃ (n : Nat), n ≤ xs.length ∧ xs.length ≤ n_ + n ∧ i = .int .i64 n ∧ Ext w4 W ∧ W.ownsRow w4.heap.size 50 4 out (evs ((L.take k).flatMap (fun x => xs.filter (aloneB x.txn)) ++ (xs.take n).filter (aloneB t))).length ((evs ((L.take k).flatMap (fun x => xs.filter (aloneB x.txn)) ++ (xs.take n).filter (aloneB t))).flatMap Ev.cs))
    case atStart => exact ⟨0, by omega, by omega, rfl, hW, by simpa using hown⟩
    case round =>
      clear hown hW
      obtain ⟨n, hn, hgn, rfl, hW, hown⟩ := hrel
      by_cases hltn : n < xs.length
      case neg =>
        have hst : Hid ((L.take (k + 1)).flatMap (fun x => xs.filter (aloneB x.txn)) = (L.take k).flatMap (fun x => xs.filter (aloneB x.txn)) ++ (xs.take n).filter (aloneB t)) := hid (by
          rw [List.take_of_length_le (show xs.length ≤ n by omega), List.take_succ_eq_append_getElem hlt, List.flatMap_append]
          have e : (lnth L k).txn = L[k].txn := by unfold lnth; rw [List.getD_eq_getElem?_getD, List.getElem?_eq_getElem hlt]; rfl
          have e2 : L[k].txn = t := by rw [← e]; exact HT.out
          simp [e2])
        rw [← hst.out] at hown
        go_wp2
        go_roundg (L.length - (k + 1))
        case measure => omega
        case rel => exact ⟨k + 1, by omega, by omega, by go_num, hW, hown⟩
      obtain ⟨be, oe, rfl, q0, q1, q2, q3⟩ := HE.out.opn (by omega)
      have hXw := hY4.trans hW
      have c0 := q0 wr n hXw hltn
      have c1 := q1 wr n hXw hltn
      have c2 := q2 wr n hXw hltn
      have c3 := q3 wr n hXw hltn
      have d0 := QT.out wr k hW hlt
      rw [HT.out] at d0
      have hbe : be < wr.heap.size := block_lt_of_cell c0
      have hbit : aloneB t xs[n] = (decide ((nth (evs xs) n).txn = t) && decide ((nth (evs xs) n).kind ≠ 2)) := by
        have e : nth (evs xs) n = toEv xs[n] := by unfold nth evs; rw [List.getD_eq_getElem?_getD, List.getElem?_map, List.getElem?_eq_getElem hltn]; rfl
        rw [e]; rfl
      have htoe : Hid (nth (evs xs) n = toEv xs[n]) := hid (by unfold nth evs; rw [List.getD_eq_getElem?_getD, List.getElem?_map, List.getElem?_eq_getElem hltn]; rfl)
      have hpk := hid (pick_take t xs hltn)
      have hbd : ((L.take k).flatMap (fun x => xs.filter (aloneB x.txn)) ++ (xs.take n).filter (aloneB t)).length ≤ 6480 := by
        have h1 := alone_len xs (L.take k)
        have h2 := List.length_filter_le (aloneB t) (xs.take n)
        have h3 : (L.take k).length * xs.length ≤ 80 * 80 := Nat.mul_le_mul (by rw [List.length_take]; omega) (by omega)
        rw [List.length_take] at h2
        rw [List.length_append]
        omega
      obtain ⟨pre, hpr⟩ : ∃ pre, (L.take k).flatMap (fun x => xs.filter (aloneB x.txn)) ++ (xs.take n).filter (aloneB t) = pre := ⟨_, rfl⟩
      have hnx : Hid ((L.take k).flatMap (fun x => xs.filter (aloneB x.txn)) ++ (xs.take (n + 1)).filter (aloneB t) = pre ++ pickE t xs[n]) := hid (by rw [hpk.out, ← List.append_assoc, hpr])
      rw [hpr] at hown hbd
      obtain ⟨ev, hev⟩ : ∃ x, nth (evs xs) n = x := ⟨_, rfl⟩
      rw [hev] at c0 c1 c2 c3 hbit htoe
      clear hpr hev hpk q0 q1 q2 q3
      by_cases hgo : ev.txn = t ∧ ev.kind ≠ 2
      case neg =>
        have hno : Hid (pickE t xs[n] = []) := hid (by
          unfold pickE
          rw [hbit, if_neg]
          simp only [Bool.and_eq_true, decide_eq_true_eq]
          exact hgo)
        have HOW := hid hown
        have hw : (ev.txn == t) = false ∨ (ev.txn = t ∧ ev.kind = 2) := by
          rw [beq_eq_false_iff_ne]; omega
        clear hgo hbit hown
        rcases hw with h1 | ⟨h1, h2⟩
        all_goals
          try rw [h1] at c1
          try rw [h2] at c0
          try clear h2
          go_wp2
          go_quiet (fail)
          go_wp2
          go_roundg (xs.length - (n + 1))
          case measure => omega
          case rel => exact ⟨n + 1, by omega, by omega, by go_num, hW.drewN _, by rw [hnx.out, hno.out, List.append_nil]; exact own_ext HOW.out hW.le (Ext.drewN (Ext.refl _) _)⟩
      obtain ⟨h1, h2⟩ := hgo
      have hyes : Hid (pickE t xs[n] = [xs[n]]) := hid (by
        unfold pickE
        rw [hbit, if_pos]
        rw [decide_eq_true h1, decide_eq_true h2]; rfl)
      have h2b : (ev.kind != 2) = true := bne_iff_ne.2 h2
      rw [h1] at c1
      have HOW := hid hown
      have HT1 := hid h1
      clear h1 h2 hbit hown
      go_wp2
      go_quiet (fail)
      have hW2 := hW.drewN nq
      have c0' := (Ext.drewN (Ext.refl wr) nq).cell c0
      have c1' := (Ext.drewN (Ext.refl wr) nq).cell c1
      have c2' := (Ext.drewN (Ext.refl wr) nq).cell c2
      have c3' := (Ext.drewN (Ext.refl wr) nq).cell c3
      obtain ⟨v2, w2, hrun, hown2, hgr2, _⟩ := app_ev (own_ext HOW.out hW.le (Ext.drewN (Ext.refl wr) nq)) hW2.le (by rw [evs_len]; omega) 22 ev
      have hX2 : Ext w4 w2 := Ext.grown hW2 hgr2 (own_block HOW.out)
      rw [HT1.out] at hrun
      replace hrun : (Builtin.append_ #[22, 22] 22 #[u7, .slice (some ⟨wr.heap.size, 0, none⟩) 1 1]).run Tryz.prog ((wr.drewN nq).alloc (.cells #[.int .i64 ev.kind, .int .i64 t, .string ev.key, .string ev.val] 50)) = .ok v2 w2 := hrun
      have HO2 := hid hown2
      clear hgr2 hown2
      go_wp2
      go_roundg (xs.length - (n + 1))
      case measure => omega
      case rel => exact ⟨n + 1, by omega, by omega, by go_num, hX2, by
        rw [hnx.out, hyes.out]
        have e : evs (pre ++ [xs[n]]) = evs pre ++ [ev] := by unfold evs; rw [List.map_append, htoe.out]; rfl
        rw [e]
        exact HO2.out⟩
end
end Go.Proofs.YtebjiimlcnmfpaaGreatPr
