/-
  The law EdgesApart, walked by hand.
-/
import Derived.Test.YthjgmccpbcelgaaS10
set_option linter.unusedVariables false
set_option linter.unusedSimpArgs false
namespace Go.Proofs.YthjgmccpbcelgaaPr
open Go.Proofs.Ythjgmccpbcelgaa
section
open Go Go.RowKit Go.Proofs Go.Shelf
set_option linter.unusedSimpArgs false
set_option linter.unusedVariables false
attribute [local go_sem] Ext.alloc Ext.alloc2 Ext.alloc3 Ext.alloc4 Ext.drewN_alloc Ext.drewN_alloc2 Ext.drew_alloc Ext.drew Ext.drewN toList_beq

theorem find_com' {xs : List S31} {t : Int} (hn : xs.length ≤ 300) (h : comOf (evs xs) t = true) : ∃ a b c d, cartoucheref08_Find.f xs t = some (a, b, c, true, d) := by
  unfold cartoucheref08_Find.f
  rw [if_pos (by omega), com_find h]
  exact ⟨_, _, _, _, rfl⟩
def toEd' (x : S76) : Go.Proofs.Ythjgmccpbcelgaa.Edge := ⟨x.f0, x.f1, x.f2, x.f3, x.f4⟩
def kEd' : Go.Proofs.Ythjgmccpbcelgaa.Kd Go.Proofs.Ythjgmccpbcelgaa.Edge := Go.Proofs.Ythjgmccpbcelgaa.Kd.flat 5 Go.Proofs.Ythjgmccpbcelgaa.Edge.z Go.Proofs.Ythjgmccpbcelgaa.Edge.cs (fun _ => rfl)
def enth' (l : List Go.Proofs.Ythjgmccpbcelgaa.Edge) (i : Nat) : Go.Proofs.Ythjgmccpbcelgaa.Edge := l.getD i Go.Proofs.Ythjgmccpbcelgaa.Edge.z
theorem edgs_opn' {w : World} {A : Option Addr} {n : Nat} {l : List Go.Proofs.Ythjgmccpbcelgaa.Edge} (h : Sl kEd' w A n l) (hn : 0 < n) : ∃ b o, A = some ⟨b, o, none⟩ ∧
    ∀ W i, Ext w W → i < n → W.cell? ⟨b, o + i * 5, none⟩ = some (.int .i64 (enth' l i).kind) ∧ W.cell? ⟨b, o + i * 5 + 1, none⟩ = some (.int .i64 (enth' l i).from_) ∧ W.cell? ⟨b, o + i * 5 + 2, none⟩ = some (.int .i64 (enth' l i).to_) ∧ W.cell? ⟨b, o + i * 5 + 3, none⟩ = some (.int .i64 (enth' l i).i) ∧ W.cell? ⟨b, o + i * 5 + 4, none⟩ = some (.int .i64 (enth' l i).j) := by
  obtain ⟨b, o, e, hg⟩ := h.get hn
  have hh : ∀ W i j u, Ext w W → i < n → (enth' l i).cs[j]? = some u → W.cell? ⟨b, o + i * 5 + j, none⟩ = some u := fun W i j u hx hi hu => by
    obtain ⟨cs, hR, hc⟩ := hg i hi
    have hcs : cs = (enth' l i).cs := hR
    exact hx.cell (hc j u (by rw [hcs]; exact hu))
  exact ⟨b, o, e, fun W i hx hi => ⟨hh W i 0 _ hx hi rfl, hh W i 1 _ hx hi rfl, hh W i 2 _ hx hi rfl, hh W i 3 _ hx hi rfl, hh W i 4 _ hx hi rfl⟩⟩
theorem Blk.cells5' {w : World} {g : Nat} {t : TypeId} {a b c d e : Value} (h : Blk w g t #[a, b, c, d, e]) : w.cell? ⟨g, 0, none⟩ = some a ∧ w.cell? ⟨g, 1, none⟩ = some b ∧ w.cell? ⟨g, 2, none⟩ = some c ∧ w.cell? ⟨g, 3, none⟩ = some d ∧ w.cell? ⟨g, 4, none⟩ = some e := ⟨h.cell 0, h.cell 1, h.cell 2, h.cell 3, h.cell 4⟩
set_option maxRecDepth 100000 in
set_option maxHeartbeats 8000000 in
theorem apart (w : World) (A : Option Addr) (cap : Nat) (l : List S31) (hC : YthjgmccpbcelgaaW.PrintWords.Kd.C k31 w A l.length l) (hcap : l.length ≤ cap) (hS : ∀ y ∈ l, EvS y) (hl : l.length * 48 ≤ 140737488351232) :
    Calls Try.prog 23 #[.slice A l.length cap] w fun e w' => e = .returned (.bool true) ∧ Ext w w' := by
  have hX := Ext.refl w
  have HC := hid hC
  clear hC
  obtain ⟨ks, hks⟩ := shown10.rounds
  obtain ⟨b, hb, hb2⟩ := few_evt l (by omega)
  obtain ⟨kf, hkf⟩ := hb.rounds
  clear hb
  go_enter Try.func23, Try.ntmps23
  cases b
  · go_wp2_with first
      | (go_at_call 65; (with_reducible refine (cartouchelaw10_shown.calls ks true _ hks).mono ?_); rintro e w1 ⟨rfl, hx1⟩; have hX1 : Ext w w1 := hX.trans hx1; have C1 := hid (YthjgmccpbcelgaaW.PrintWords.Kd.C_below HC.out hX1))
      | (go_at_call 66; (with_reducible refine (cartouchelaw10_few.calls kf _ _ l false _ C1.out hcap hkf).mono ?_); rintro e w2 ⟨rfl, ⟨⟨nd, rfl⟩⟩⟩; have hX2 : Ext w (w1.drewN nd) := hX1.drewN nd)
    go_ret
    exact ⟨rfl, hX2⟩
  · have hn := hb2 rfl
    obtain ⟨ka, hka⟩ := (all_evt l (by omega) hS).rounds
    go_wp2_with first
      | (go_at_call 65; (with_reducible refine (cartouchelaw10_shown.calls ks true _ hks).mono ?_); rintro e w1 ⟨rfl, hx1⟩; have hX1 : Ext w w1 := hX.trans hx1; have C1 := hid (YthjgmccpbcelgaaW.PrintWords.Kd.C_below HC.out hX1))
      | (go_at_call 66; (with_reducible refine (cartouchelaw10_few.calls kf _ _ l true _ C1.out hcap hkf).mono ?_); rintro e w2 ⟨rfl, ⟨⟨nd, rfl⟩⟩⟩; have hX2 : Ext w (w1.drewN nd) := hX1.drewN nd; have C2 := hid (YthjgmccpbcelgaaW.PrintWords.Kd.C_below HC.out hX2))
      | (go_at_call 67; (with_reducible refine (edges_All.calls ka _ _ l (allE l) _ C2.out hcap hka).mono ?_); rintro e w3 ⟨v3, rfl, hR3, hx3⟩; have hX3 : Ext w w3 := hX2.trans hx3)
    obtain ⟨A5, c5, rfl, hc5, hC5⟩ := YthjgmccpbcelgaaW.PrintWords.Kd.N_reads (YthjgmccpbcelgaaW.PrintWords.Kd.R_N hR3)
    have hlen := allE_len l (by omega)
    have hG : Hid (∀ k, k < (allE l).length → GoodE (evs l) (enth' ((allE l).map toEd') k)) := hid (fun k hk => by
      obtain ⟨e, key, h1, h2⟩ := allE_good (List.getElem_mem hk)
      have : enth' ((allE l).map toEd') k = e := by
        unfold enth'
        rw [List.getD_eq_getElem?_getD, List.getElem?_map, List.getElem?_eq_getElem hk, h1]
        rfl
      rw [this]
      exact of_good h2)
    have hS5 : Sl kEd' w3 A5 (allE l).length ((allE l).map toEd') := sl_of k76 (fun x => (toEd' x).cs) (fun h => k76_open h) kEd' toEd' rfl (by decide) (fun _ _ => rfl) hC5 (by omega)
    have HE := hid (evs_of HC.out (by omega))
    clear hR3 hC5 hks hkf hka hS hb2
    generalize (allE l).map toEd' = el at *
    generalize (allE l).length = ne at *
    go_loopw [6] (fun v W => Ext w3 W ∧ ∃ k : Nat, k ≤ ne ∧ v = .int .i64 k) (fun v _ => ne - (RowKit.intOf v).toNat)
    case atStart => exact ⟨Ext.refl _, 0, by omega, rfl⟩
    case round =>
      obtain ⟨hW3, k, hk, rfl⟩ := hrel
      have hW := hX3.trans hW3
      by_cases hlt : k < ne
      · obtain ⟨a, b', e1, e2, ha, hb, e3, e4, hne, hkey, c1, c2, _⟩ := hG.out k hlt
        rw [evs_len] at ha hb
        obtain ⟨g5, o5, rfl, ht⟩ := edgs_opn' hS5 (by omega)
        obtain ⟨x0, x1, x2, x3, x4⟩ := ht wr k hW3 hlt
        rw [e3] at x1
        rw [e4] at x2
        rw [e1] at x3
        rw [e2] at x4
        obtain ⟨be, oe, rfl, q0, q1, q2, q3⟩ := HE.out.opn (by omega)
        obtain ⟨p0, p1, p2, p3, hp⟩ := find_com' (by omega) c1
        obtain ⟨r0, r1, r2, r3, hq⟩ := find_com' (by omega) c2
        have HP := hid hp
        have HQ := hid hq
        have hbt : ((nth (evs l) a).txn == (nth (evs l) b').txn) = false := by simp [hne]
        have ha1 : (a : Int) < (l.length : Int) := by omega
        have hb1 : (b' : Int) < (l.length : Int) := by omega
        have ha0 : (0 : Int) ≤ (a : Int) := by omega
        have hb0 : (0 : Int) ≤ (b' : Int) := by omega
        have hWa := hW.alloc (.cells #[.int .i64 (enth' el k).kind, .int .i64 (nth (evs l) a).txn, .int .i64 (nth (evs l) b').txn, .int .i64 a, .int .i64 b'] 76)
        have pe := Blk.new wr 76 #[.int .i64 (enth' el k).kind, .int .i64 (nth (evs l) a).txn, .int .i64 (nth (evs l) b').txn, .int .i64 a, .int .i64 b']
        have PE := hid pe
        have HC1 := hid (YthjgmccpbcelgaaW.PrintWords.Kd.C_below HC.out hWa)
        have hL3 := hid (Ext.alloc (Ext.refl wr) (.cells #[.int .i64 (enth' el k).kind, .int .i64 (nth (evs l) a).txn, .int .i64 (nth (evs l) b').txn, .int .i64 a, .int .i64 b'] 76))
        clear e1 e2 e3 e4 hG ht hp hq c1 c2 pe hS5
        go_wp2_with first
          | (go_at_call 34; (with_reducible refine (cartoucheref08_Find.calls _ cap l _ p0 p1 p2 true p3 _ HC1.out hcap HP.out).mono ?_); rintro e w4 ⟨rfl, hx4⟩; have hX5 : Ext w (w4.alloc (.cells #[.int .i64 p0, .int .i64 p1, .int .i64 p2, .bool true] 33)) := (Ext.trans hWa hx4).alloc _; have hw5 : Ext wr (w4.alloc (.cells #[.int .i64 p0, .int .i64 p1, .int .i64 p2, .bool true] 33)) := (Ext.trans hL3.out hx4).alloc _; have P5 := hid ((Blk.ext PE.out hx4).alloc (.cells #[.int .i64 p0, .int .i64 p1, .int .i64 p2, .bool true] 33)); obtain ⟨y0, y1, y2, y3, y4⟩ := Blk.cells5' P5.out; have HC5 := hid (YthjgmccpbcelgaaW.PrintWords.Kd.C_below HC.out hX5))
          | (go_at_call 34; (with_reducible refine (cartoucheref08_Find.calls _ cap l _ r0 r1 r2 true r3 _ HC5.out hcap HQ.out).mono ?_); rintro e w6 ⟨rfl, hx6⟩; have hX7 : Ext w (w6.alloc (.cells #[.int .i64 r0, .int .i64 r1, .int .i64 r2, .bool true] 33)) := (Ext.trans hX5 hx6).alloc _; have hw7 : Ext wr (w6.alloc (.cells #[.int .i64 r0, .int .i64 r1, .int .i64 r2, .bool true] 33)) := (Ext.trans hw5 hx6).alloc _; obtain ⟨z0, z1, z2, z3, z4⟩ := Blk.cells5' ((Blk.ext P5.out hx6).alloc (.cells #[.int .i64 r0, .int .i64 r1, .int .i64 r2, .bool true] 33)); obtain ⟨-, -, -, s3⟩ := ((Blk.ext (Blk.new w4 33 #[.int .i64 p0, .int .i64 p1, .int .i64 p2, .bool true]) hx6).alloc (.cells #[.int .i64 r0, .int .i64 r1, .int .i64 r2, .bool true] 33)).cells4; obtain ⟨-, -, -, t3⟩ := (Blk.new w6 33 #[.int .i64 r0, .int .i64 r1, .int .i64 r2, .bool true]).cells4; have v1 := q1 _ a hX7 (by omega); have v2 := q1 _ b' hX7 (by omega); have v3 := q2 _ a hX7 (by omega); have v4 := q2 _ b' hX7 (by omega); rw [hkey] at v3)
        clear q0 q1 q2 q3 x0 x1 x2 x3 x4 y0 y1 y2 y3 y4 z0 C1 C2 HC HE HC1 HC5 HP HQ P5 PE hX1 hX2 hX3 hX5 hw5 hx4 hx6 hkey hne
        go_quiet (fail)
        go_wp2
        exact ⟨⟨Ext.drewN (hW3.trans hw7) _, k + 1, by omega, by go_num⟩, by simp [RowKit.intOf]; omega⟩
      · go_wp2
        go_ret
        exact ⟨rfl, hW⟩
end
end Go.Proofs.YthjgmccpbcelgaaPr
